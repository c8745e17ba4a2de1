/-
  What is proved here: parts bCc, bCd.
-/
import Derived.Test.YtlmgkipmfgijiaaGreatDoorVa
import Derived.Test.YtlmgkipmfgijiaaGreatDoorVc
import Derived.Test.YtlmgkipmfgijiaaGreatDoorVb
import Derived.ChangeSame
import Derived.ChangeVars
import Derived.JoinedOf
import Derived.RowKit
import Derived.Deep.Strs
namespace Go.Proofs.YtlmgkipmfgijiaaGreatDoor
set_option linter.unusedVariables false
set_option linter.unusedSimpArgs false
set_option maxRecDepth 100000
set_option maxHeartbeats 8000000
open Go.RowKit
def Kf (L:List (Int×Int)):List Value:=L.flatMap fun p=>[.int .i64 p.1,.int .i64 p.2,.slice none 0 0]
theorem jD (L:List (Int×Int)):(Kf L).length=L.length*3:=by
 induction L with
 | nil=>rfl
 | cons p L ih=>simp only [Kf,Jy,G5,IQ,bk] at ih ⊢;omega
theorem Zx (L:List (Int×Int)) (a b:Int):Kf (L++[(a,b)])=Kf L++[.int .i64 a,.int .i64 b,.slice none 0 0]:=by simp [Kf]
theorem ato (L:List (Int×Int)) (a b t:Int):(Kf (L++[(a,b)])).set (L.length*3+1) (.int .i64 t)=Kf (L++[(a,t)]):=by
 rw [Zx,Zx,← jD,nE _ _ A0];simp
theorem rC (L:List (Int×Int)) (a b:Int):(Kf (L++[(a,b)]))[L.length*3+1]?=some (.int .i64 b):=by
 rw [Zx,← jD,Jg A0];simp
structure BM (V wr:World) (gb nb:Nat) (bv:Value) (L:List (Int×Int)):Prop where
 gV:gb<V.heap.size
 nV:nb<V.heap.size
 gn:gb≠nb
 os:wr.os=V.os
 tape:wr.tape=V.tape
 output:wr.output=V.output
 sz:V.heap.size≤wr.heap.size
 blk:∀k,k<V.heap.size→k≠gb→k≠nb→wr.heap[k]?=V.heap[k]?
 g:wr.heap[gb]?=some (.cells #[bv,.slice none 0 0] 31 (0,0))
 num:Im wr nb (LG L)
 row:wr.ownsRow V.heap.size 78 3 bv L.length (Kf L)
theorem BM.below {V wr wr':World} {gb nb:Nat} {bv:Value} {L:List (Int×Int)} (h:BM V wr gb nb bv L) (hb:Below wr.heap.size wr wr'):BM V wr' gb nb bv L:=
 ⟨h.gV,h.nV,h.gn,hb.os.trans h.os,hb.tape.trans h.tape,hb.output.trans h.output,FK h.sz hb.size,fun k h1 h2 h3=>(hb.block k ZL).trans (h.blk k h1 h2 h3),(hb.block _ (by have:=h.sz;have:=h.gV;omega)).trans h.g,h.num.below hb h.num.lt,CS h.row hb⟩
theorem apZ (w:World) (a b c:Value) (t:TypeId):∀j u,[a,b,c][j]?=some u→(w.alloc (.cells #[a,b,c] t)).cell? ((⟨w.heap.size,0,none⟩:Addr).add j)=some u:=by
 intro j u h;have e:(⟨w.heap.size,0,none⟩:Addr).add j=⟨w.heap.size,j,none⟩:=by cases j<;>simp [Addr.add]
 rw [e];unfold World.cell?;rw [AY];simpa using h
theorem apk (L:List (Int×Int)):O4 L (fun _=>.slice none 0 0)=Kf L:=by
 apply JR;intro q;by_cases hq:q<L.length*3
 ·obtain⟨a,b,hb,rfl⟩:∃a b,b<3∧q=a*3+b:=⟨q / 3,q % 3,dW _ A0,by omega⟩
  have ha:a<L.length:=by omega
  rw [Rj L _ ha hb];have:∀(L:List (Int×Int)) (a b:Nat),a<L.length→b<3→(Kf L)[a*3+b]?=[.int .i64 (L.getD a (0,0)).1,.int .i64 (L.getD a (0,0)).2,.slice none 0 0][b]?:=by
   intro L;induction L with
   | nil=>intro a b h;simp at h
   | cons p L ih=>
    intro a b h hb;have e:Kf (p :: L)=[.int .i64 p.1,.int .i64 p.2,.slice none 0 0]++Kf L:=by simp [Kf]
    rw [e];cases a with
    | zero=>rw [Kr CD];simp
    | succ a=>
     rw [Jg CD];have:=ih a b (by simp at h;omega) hb;rw [show (a+1)*3+b - [Value.int .i64 p.1,.int .i64 p.2,.slice none 0 0].length=a*3+b by simp;omega,this];simp [List.getD]
  exact (this L a b ha hb).symm
 ·rw [Dy (by rw [aR];omega),Dy (by rw [jD];omega)]
theorem asm {w:World} {b:Nat} {o:Obj} (h:w.heap[b]?=some o):b<w.heap.size:=(Bl.1 h).1
theorem asS:(Tryz.prog.info? 78).map (fun i=>(i.zero,i.size,i.bytes))=some (some (.agg #[.int .i64 0,.int .i64 0,.slice none 0 0]),3,40):=by kernel_rfl
theorem BM.im {V wr:World} {gb nb x:Nat} {bv:Value} {L:List (Int×Int)} {f:Int→Option Value} (h:BM V wr gb nb bv L) (hx:Im V x f) (h1:x≠gb) (h2:x≠nb):Im wr x f:=hx.keep (h.blk x hx.lt h1 h2)
theorem BM.XU {V wr:World} {gb nb:Nat} {bv:Value} {L:List (Int×Int)} (h:BM V wr gb nb bv L) {j:Nat} (hj:bv.ownBlock=some j):V.heap.size≤j∧j<wr.heap.size:=h.row.lt j hj
theorem BM.Mr {V wr:World} {gb nb g cap:Nat} {M:List (Int×Int)} {a b t:Int} (h:BM V wr gb nb (.slice (some ⟨g,0,none⟩) (M.length+1) cap) (M++[(a,b)])):BM V (wr.setCell ⟨g,M.length*3+1,none⟩ (.int .i64 t)) gb nb (.slice (some ⟨g,0,none⟩) (M.length+1) cap) (M++[(a,t)]):=by
 have hr:=h.row;rw [show (M++[(a,b)]).length=M.length+1 by simp] at hr;obtain⟨r1,r2⟩:=hr.stored (M.length*3+1) (.int .i64 t);have hg:=(h.XU (j:=g) rfl);have Sj:=h.gV;have Nn:=h.nV;refine⟨h.gV,h.nV,h.gn,h.os,h.tape,h.output,by simpa using h.sz,fun k h1 h2 h3=>?_,?_,?_,?_⟩
 ·rw [Bb _ _ _ _ (by show k≠g;omega)];exact h.blk k h1 h2 h3
 ·rw [Bb _ _ _ _ (by show gb≠g;omega)];exact h.g
 ·rw [yc M a t b]
  exact h.num.keep (Bb _ _ _ _ (by show nb≠g;omega))
 ·rw [show (M++[(a,t)]).length=M.length+1 by simp,← ato M a b t]
  exact r1
theorem BM.app {V wr w2 w3:World} {gb nb:Nat} {bv v':Value} {L:List (Int×Int)} {a:Int} {o:Obj} (h:BM V wr gb nb bv L) (hm:Im w2 nb (LG (L++[(a,0)]))) (ho:w2.os=wr.os) (ht:w2.tape=wr.tape) (hp:w2.output=wr.output) (hs:w2.heap.size=wr.heap.size) (hk:∀i,i≠nb→w2.heap[i]?=wr.heap[i]?)
  (hg:(w2.alloc o).grownBy w3 bv.ownBlock) (hown:w3.ownsRow V.heap.size 78 3 v' (L.length+1) (Kf (L++[(a,0)]))):BM V (w3.setCell ⟨gb,0,none⟩ v') gb nb v' (L++[(a,0)]):=by
 have Sj:=h.gV;have Nn:=h.nV;have hgn:=h.gn;have hsz:=h.sz;have hrl:∀j,bv.ownBlock=some j→V.heap.size≤j:=fun j hj=>(h.XU hj).1;have hb:∀k,k<V.heap.size→w3.heap[k]?=w2.heap[k]?:=fun k hk=>by
  rw [hg.block k I7 (fun e=>by have:=hrl k e.symm;omega),Bv _ _ A0]
 have hg3:w3.heap[gb]?=some (.cells #[bv,.slice none 0 0] 31 (0,0)):=(hb gb Sj).trans ((hk gb hgn).trans h.g);have asp:=hg.size;rw [F9] at asp;refine⟨h.gV,h.nV,h.gn,?_,?_,?_,by simp;omega,fun k h1 h2 h3=>?_,?_,?_,?_⟩
 ·exact hg.os.trans (ho.trans h.os)
 ·exact hg.tape.trans (ht.trans h.tape)
 ·exact hg.output.trans (hp.trans h.output)
 ·rw [Bb _ _ _ _ (by exact h2)]
  exact (hb k h1).trans ((hk k h3).trans (h.blk k h1 h2 h3))
 ·have:=Cl w3 gb 0 _ _ v' hg3
  rw [this];rfl
 ·exact hm.keep ((Bb _ _ _ _ (by exact ED hgn)).trans (hb nb Nn))
 ·rw [show (L++[(a,(0:Int))]).length=L.length+1 by simp]
  refine PW hown ?_ _;intro e;have:=(hown.lt gb e).1;omega
def lQ (B:Nat) (bv pv:Value):Prop:=(∀q,bv.ownBlock=some q→B≤q)∧∀q,pv.ownBlock=some q→B≤q
theorem arS (cv ev:Value) (sh lk:Int) (n:Nat) (cd:Nat→Int) (AO:List Bt) (task:Int) (w:World) (T:CO w) (HW:Words w cv n cd) (HE:IZ w ev AO) :
  Calls Tryz.prog 12 #[.agg #[cv,ev,.int .i64 sh,.int .i64 lk],.int .i64 task] w fun e w'=>
   (¬Q6 n cd AO sh lk∧e=.returned (.tuple #[.agg #[.slice none 0 0,.slice none 0 0],.int .i64 (-1),.int .i64 3])∧Below w.heap.size w w')∨
   (Q6 n cd AO sh lk∧(task<0∨(AO.length:Int)≤task)∧e=.returned (.tuple #[.agg #[.slice none 0 0,.slice none 0 0],.int .i64 (-1),.int .i64 2])∧Below w.heap.size w w')∨
   (Q6 n cd AO sh lk∧∃(k:Nat) (en:Bt) (D:List Int) (bad:Int),task=(k:Int)∧AO[k]?=some en∧0≤bad∧Ex (AK cd) en.st en.en D [] bad∧e=.returned (.tuple #[.agg #[.slice none 0 0,.slice none 0 0],.int .i64 bad,.int .i64 10])∧Below w.heap.size w w')∨
   (Q6 n cd AO sh lk∧∃(k:Nat) (en:Bt) (D:List Int) (L:List (Int×Int)) (bv pv:Value),task=(k:Int)∧AO[k]?=some en∧Ex (AK cd) en.st en.en D [] (-1)∧blk (AK cd) en.st D (en.en - en.st).toNat=L∧e=.returned (.tuple #[.agg #[bv,pv],.int .i64 (-1),.int .i64 0])∧E7 w' bv (BP (AK cd) L)∧Dk w' pv (Jc (AK cd) L)∧Below w.heap.size w w'∧lQ w.heap.size bv pv):=by
 have hn:=HW.le;obtain⟨A,cap,hcv,hc1,hc2,hrd⟩:=HW.at_;obtain⟨EA,CV,hev,he1,he2,N5⟩:=HE.at_;have h63:AO.length≤2 ^ 63 - 1:=by unfold maxLen at he2;omega
 have⟨Mw,N0,HT⟩:=Bh HW HE T;clear hrd N5 HW HE T;subst hcv hev;obtain⟨V0,Bq⟩:=A8 ((w.alloc (.cells #[.slice A n cap,.slice EA AO.length CV,.int .i64 sh,.int .i64 lk] 25)).alloc (.cells #[.slice none 0 0,.slice none 0 0] 31));have b0:Below w.heap.size w V0:=Bq▸((AV _ _).alloc (AH _) _).alloc AR _;have s0:w.heap.size+2=V0.heap.size:=by rw [←Bq];simp
 have k0:V0.heap[w.heap.size]?=some (.cells #[.slice A n cap,.slice EA AO.length CV,.int .i64 sh,.int .i64 lk] 25):=by rw [←Bq,Bv _ _ AR];exact AY _ _
 have k1:V0.heap[w.heap.size+1]?=some (.cells #[.slice none 0 0,.slice none 0 0] 31):=by rw [←Bq];exact Et _ _ AR
 have y0:V0.cell? ⟨w.heap.size,0,none⟩=some (.slice A n cap):=by simp [World.cell?,k0]
 have y1:V0.cell? ⟨w.heap.size,1,none⟩=some (.slice EA AO.length CV):=by simp [World.cell?,k0]
 have y2:V0.cell? ⟨w.heap.size,2,none⟩=some (.int .i64 sh):=by simp [World.cell?,k0]
 have y3:V0.cell? ⟨w.heap.size,3,none⟩=some (.int .i64 lk):=by simp [World.cell?,k0]
 have⟨K0,K1,B0,UG⟩:=CU k0 k1 b0 (akT (.slice A n cap) (.slice EA AO.length CV) sh lk n cd AO V0 (HT.out.below b0) (Mw.out.below b0) (N0.out.below b0));have f0:V0.frozen? ⟨w.heap.size+1,0,none⟩=false:=by simp [World.frozen?,k1]
 have f1:V0.frozen? ⟨w.heap.size+1,1,none⟩=false:=by simp [World.frozen?,k1]
 have r0:V0.cell? ⟨w.heap.size+1,0,none⟩=some (.slice none 0 0):=by simp [World.cell?,k1]
 have r1:V0.cell? ⟨w.heap.size+1,1,none⟩=some (.slice none 0 0):=by simp [World.cell?,k1]
 have s1:w.heap.size+1<V0.heap.size:=by omega
 have s2:w.heap.size<V0.heap.size:=by omega
 clear k0 k1 b0;by_cases hg:Q6 n cd AO sh lk;case neg=>
  have HC:=A3 (show Calls Tryz.prog 30 #[.agg #[.slice A n cap,.slice EA AO.length CV,.int .i64 sh,.int .i64 lk]] V0 fun e w'=>∃r,e=.returned (.int .i64 r)∧(r != 0)=true∧∃y:Ext V0,y.w=w' from UG.out.mono fun e w' ⟨⟨r,h1,h2⟩,h3⟩=>⟨r,h1,by simp;intro h;exact hg (h2.1 h),⟨w',h3⟩,rfl⟩);go_enter Tryz.func12,Tryz.ntmps12;go_upto_region 1 with fail;clear Bq;go_wp2_with (go_at_call 30;refine HC.out.mono ?_;rintro e w' ⟨r,rfl,dr,y,rfl⟩);refine Af (v:=.tuple #[.agg #[.slice none 0 0,.slice none 0 0],.int .i64 (-1),.int .i64 3]) bL rfl (.inl ⟨hg,rfl,?_⟩);refine CY (CY (Ext.below B0.out A0 y) ?_ _) ?_ _<;>simp
 have HC:=A3 (show Calls Tryz.prog 30 #[.agg #[.slice A n cap,.slice EA AO.length CV,.int .i64 sh,.int .i64 lk]] V0 fun e w'=>e=.returned (.int .i64 0)∧∃y:Ext V0,y.w=w' from UG.out.mono fun e w' ⟨⟨r,h1,h2⟩,h3⟩=>⟨by rw [h1,h2.2 hg],⟨w',h3⟩,rfl⟩);have Ur:=A3 hg;clear hg UG;by_cases ht:task<0∨(AO.length:Int)≤task;case pos=>
  go_enter Tryz.func12,Tryz.ntmps12;go_upto_region 1 with fail;clear Bq;by_cases h0:task<0
  ·have d0:decide (task<0)=true:=Ac h0
   go_wp2_with (go_at_call 30;refine HC.out.mono ?_;rintro e w' ⟨rfl,y,rfl⟩);refine Af (v:=.tuple #[.agg #[.slice none 0 0,.slice none 0 0],.int .i64 (-1),.int .i64 2]) bL rfl (.inr (.inl ⟨Ur.out,ht,rfl,?_⟩));refine CY (CY (Ext.below B0.out A0 y) ?_ _) ?_ _<;>simp
  ·have d0:decide (task<0)=false:=Ad h0
   have d1:decide ((AO.length:Int)≤task)=true:=Ac A0;go_wp2_with (go_at_call 30;refine HC.out.mono ?_;rintro e w' ⟨rfl,y,rfl⟩);refine Af (v:=.tuple #[.agg #[.slice none 0 0,.slice none 0 0],.int .i64 (-1),.int .i64 2]) bL rfl (.inr (.inl ⟨Ur.out,ht,rfl,?_⟩));refine CY (CY (Ext.below B0.out A0 y) ?_ _) ?_ _<;>simp
 obtain⟨k,rfl⟩:∃k:Nat,task=(k:Int):=⟨task.toNat,by omega⟩;have hk:k<AO.length:=by omega
 have d0:decide ((k:Int)<0)=false:=Ad A0;have d1:decide ((AO.length:Int)≤(k:Int))=false:=Ad A0;obtain⟨e,b,off,he,rfl,hbl,c0,c1,c2,c3⟩:=N0.out.cells B0.out hk;have hem:=Bj he;obtain⟨g1,g2,g3⟩:=Ur.out.ch.bounds e hem;have hb2:b<V0.heap.size:=by omega
 have hcd:=Ur.out.code;clear ht N0;go_enter Tryz.func12,Tryz.ntmps12;go_upto_region 1 with fail;clear Bq;go_upto_region 6 with (go_at_call 30;refine HC.out.mono ?_;rintro e w' ⟨rfl,y,rfl⟩);obtain⟨W1,hW1⟩:=A8 (y.w.alloc (.cells #[.string e.nm,.int .i64 e.st,.int .i64 e.en,.int .i64 e.da] 75));have bW:Below V0.heap.size V0 W1:=hW1▸y.h.alloc y.h.size _;have kW:W1.heap[y.w.heap.size]?=some (.cells #[.string e.nm,.int .i64 e.st,.int .i64 e.en,.int .i64 e.da] 75):=hW1▸AY _ _;have sW:y.w.heap.size<W1.heap.size:=by rw [←hW1];simp
 have sy:=y.h.size;rw [hW1];obtain⟨q,hq⟩:=A8 y.w.heap.size;rw [hq] at kW sW sy ⊢;have B1:=A3 (B0.out.trans (bW.mono A0));have J8:=A3 (apq (.slice A n cap) (.slice (some ⟨b,off,none⟩) AO.length CV) sh lk e.nm e.st e.en e.da n cd W1 (HT.out.below B1.out) (Mw.out.below B1.out) g1 g2 g3);have z0:W1.cell? ⟨w.heap.size,0,none⟩=some (.slice A n cap):=by rw [bW.cell (p:=⟨w.heap.size,0,none⟩) s2];exact y0
 have z1:W1.cell? ⟨w.heap.size,1,none⟩=some (.slice (some ⟨b,off,none⟩) AO.length CV):=by rw [bW.cell (p:=⟨w.heap.size,1,none⟩) s2];exact y1
 have z2:W1.cell? ⟨w.heap.size,2,none⟩=some (.int .i64 sh):=by rw [bW.cell (p:=⟨w.heap.size,2,none⟩) s2];exact y2
 have z3:W1.cell? ⟨w.heap.size,3,none⟩=some (.int .i64 lk):=by rw [bW.cell (p:=⟨w.heap.size,3,none⟩) s2];exact y3
 have v0:W1.cell? ⟨q,0,none⟩=some (.string e.nm):=by simp [World.cell?,kW]
 have v1:W1.cell? ⟨q,1,none⟩=some (.int .i64 e.st):=by simp [World.cell?,kW]
 have v2:W1.cell? ⟨q,2,none⟩=some (.int .i64 e.en):=by simp [World.cell?,kW]
 have v3:W1.cell? ⟨q,3,none⟩=some (.int .i64 e.da):=by simp [World.cell?,kW]
 have kR:W1.heap[w.heap.size+1]?=some (.cells #[.slice none 0 0,.slice none 0 0] 31):=(bW.block _ s1).trans K1.out;have s3:w.heap.size+1<W1.heap.size:=by omega
 have⟨KW,KR⟩:=AQ kW kR;clear hW1 hq kW kR bW y y0 y1 y2 y3 r0 r1 f0 f1 c0 c1 c2 c3 HC K0 K1 B0 d0 d1;go_upto_region 7 with (go_at_call 31;refine J8.out.mono ?_;rintro e' W2 ⟨D,bad,fb,rfl,hfb,hRI,hIm,Qg⟩);have WL:=(Qg.block _ s3).trans KR.out;have kW2:=(Qg.block _ sW).trans KW.out;have r0:W2.cell? ⟨w.heap.size+1,0,none⟩=some (.slice none 0 0):=by simp [World.cell?,WL]
 have r1:W2.cell? ⟨w.heap.size+1,1,none⟩=some (.slice none 0 0):=by simp [World.cell?,WL]
 have f0:W2.frozen? ⟨w.heap.size+1,0,none⟩=false:=by simp [World.frozen?,WL]
 have f1:W2.frozen? ⟨w.heap.size+1,1,none⟩=false:=by simp [World.frozen?,WL]
 have B2:=A3 (B1.out.trans (Qg.mono A0));have Lr:=A3 hRI;have sW2:=Qg.size;have⟨Mb,Uk,KR2⟩:=Bh hIm kW2 WL;clear hRI z0 z1 z2 z3 v0 v1 v2 v3 KW KR B1 J8 Qg hIm WL kW2;rcases Classical.em (bad = -1) with hbd|hbd;case inr=>
  have hbp:0≤bad:=by
   rcases Lr.out.b with h|h
   ·exact absurd h.1 hbd
   ·have:=(Lr.out.dr bad h.1).range _ _ _ g2
    omega
  go_wp2_with fail;refine Af (v:=.tuple #[.agg #[.slice none 0 0,.slice none 0 0],.int .i64 bad,.int .i64 10]) bL rfl (.inr (.inr (.inl ⟨Ur.out,k,e,D,bad,rfl,he,hbp,Lr.out,rfl,?_⟩)));refine CY (CY B2.out ?_ _) ?_ _<;>simp
 subst hbd;have hcD:∀a∈D,(0≤a∧a≤1000000)∧(-1000000≤(AK cd a).AD∧(AK cd a).AD≤1000000):=fun a ha=>by
  have h1:=(Lr.out.dr a ha).range _ _ _ g2;have h2:=jX (cd a.toNat) (Mw.out.wd a.toNat A0).1;unfold AK;omega
 have Ni:=A3 (af6 e.nm e.st e.en e.da fb (AK cd) D W2 A0 hcD Mb.out);have RH:=A3 hcD;have v0:W2.cell? ⟨q,0,none⟩=some (.string e.nm):=by simp [World.cell?,Uk.out]
 have v1:W2.cell? ⟨q,1,none⟩=some (.int .i64 e.st):=by simp [World.cell?,Uk.out]
 have v2:W2.cell? ⟨q,2,none⟩=some (.int .i64 e.en):=by simp [World.cell?,Uk.out]
 have v3:W2.cell? ⟨q,3,none⟩=some (.int .i64 e.da):=by simp [World.cell?,Uk.out]
 clear r0 r1 f0 f1 hcD;go_upto_region 10 with (go_at_call 32;refine Ni.out.mono ?_;rintro e' W3 ⟨mb,mg,rfl,hmb,hMI,hMm,hb3⟩);have mk:=fun W:World=>(show (Instr.makeMap 101 none).run Tryz.prog W=.ok (.map (some W.heap.size)) (W.alloc (.map #[] 0)) from rfl);obtain⟨V,hV⟩:=A8 ((W3.alloc (.cells #[.slice none 0 0,.slice none 0 0] 31)).alloc (.map #[] 0));have sV:W3.heap.size+2=V.heap.size:=by rw [←hV];simp
 have bV:Below W3.heap.size W3 V:=hV▸((AV _ _).alloc (AH _) _).alloc AR _;have kg:V.heap[W3.heap.size]?=some (.cells #[.slice none 0 0,.slice none 0 0] 31):=by rw [←hV,Bv _ _ AR];exact AY _ _
 have kn:Im V (W3.heap.size+1) (LG []):=by
  rw [←hV,at2];have:=Im.made (W3.alloc (.cells #[.slice none 0 0,.slice none 0 0] 31))
  rwa [F9] at this
 have sW3:=hb3.size;have kW3:V.heap[q]?=_:=(bV.block _ A0).trans ((hb3.block _ A0).trans Uk.out);have kR3:V.heap[w.heap.size+1]?=_:=(bV.block _ A0).trans ((hb3.block _ A0).trans KR2.out);have hFl:=Mb.out.lt;have hF3:Im V fb (Gm (AK cd) D):=Mb.out.keep ((bV.block _ A0).trans (hb3.block _ hFl));have hMl:=hMm.lt;have hM3:Im V mb mg:=hMm.keep (bV.block _ hMl);have hB3:Below w.heap.size w V:=B2.out.trans ((hb3.mono (by have:=B2.out.size;omega)).trans (bV.mono (by have:=B2.out.size;omega)));have u1:V.cell? ⟨q,1,none⟩=some (.int .i64 e.st):=by simp [World.cell?,kW3]
 have⟨KW3,KR3,HF3,HM3,B3⟩:=FP kW3 kR3 hF3 hM3 hB3;have Vk:=A3 (show BM V V W3.heap.size (W3.heap.size+1) (.slice none 0 0) (blk (AK cd) e.st D 0) from⟨by omega,by omega,by omega,rfl,rfl,rfl,AH _,fun _ _ _ _=>rfl,kg,kn,NK _ _ _ _⟩);have HMI:=A3 hMI;have v1':W3.cell? ⟨q,1,none⟩=some (.int .i64 e.st):=by rw [hb3.cell (p:=⟨q,1,none⟩) (by show q<_;omega)];exact v1
 clear kW3 kR3 hF3 hM3 hB3 kg kn bV hMm hMI hb3 v0 v1 v2 v3 Ni Uk KR2 Mb;go_upto_region 13 with fail;clear hV;obtain⟨gb,hgb⟩:=A8 W3.heap.size;rw [hgb] at Vk sV sW3 ⊢;obtain⟨nb,hnb⟩:=A8 (gb+1);rw [hnb] at Vk ⊢;have hfg:fb<gb:=by omega
 have hmg:mb<gb:=by omega
 obtain⟨i1,hi1,hy0,hy1,hy2⟩:=Dp asS;have hqg:q<gb:=by omega
 have hwg:w.heap.size+1<gb:=by omega
 have mC:e.st∈D:=by rcases Lr.out.s with h|h;exact h;cases h
 clear u1 v1' mk hk hbl hb2 sy sW s3 sW2 hfb hmb hFl hMl sW3 hgb hc1 hc2 he1 he2 h63 s0 s1 s2;go_loopw [13,14,15] (fun a13 a14 a15 wr=>∃(m:Nat) (bv:Value),a13=.int .i64 (e.st+(m:Int))∧e.st+(m:Int)≤e.en∧BM V wr gb nb bv (blk (AK cd) e.st D m)) (fun a13 _ _ _=>(e.en - intOf a13).toNat);case atStart=>exact⟨0,_,by simp,by simp;omega,Vk.out⟩
 case round=>
  obtain⟨m,bv,rfl,hme,hM⟩:=hrel;have HM:=A3 hM;clear hM Vk;have kq:=(HM.out.blk q A0 A0 A0).trans KW3.out;have v2:wr.cell? ⟨q,2,none⟩=some (.int .i64 e.en):=by simp [World.cell?,kq]
  have hF:=HM.out.im HF3.out A0 A0;have XY:=HM.out.im HM3.out A0 A0;have hBI:=X9 (AK cd) e.st D m;have L6:=A3 hBI;have hbl:=eG (AK cd) e.st D m;clear kq hBI;by_cases hlt:e.st+(m:Int)<e.en
  ·-- auh
   have dl:decide (e.st+(m:Int)<e.en)=true:=Ac hlt;have wr1:IntKind.i64.wrap (e.st+(m:Int)+1)=e.st+(m:Int)+1:=Dn _ A0;have hm4:m≤4096:=by omega
   by_cases hD:e.st+(m:Int)∈D
   ·have l1:=hF.Tc (P:=Tryz.prog) (kt:=3) (t:=96) (e:=67) Db WO (k:=e.st+(m:Int)) (v:=(AK cd (e.st+m)).val) (by unfold Gm;rw [A9 hD]) true
    obtain⟨i,hi⟩:=A8 (AK cd (e.st+m));rw [hi] at l1;simp only [↓reduceIte,Ins.val,kv] at l1;obtain⟨X1,NB⟩:=A8 (wr.alloc (.cells #[.int .u8 i.op,.int .i64 i.a,.int .i64 i.b,.int .i64 i.c,.int .i64 i.AD] 67));have b1:Below wr.heap.size wr X1:=NB▸(AV _ _).alloc (AH _) _;have Bz:=A3 (HM.out.below b1);have hM1:Im X1 mb mg:=XY.below b1 XY.lt;clear hi hF XY;by_cases hl:Ei (AK cd) e.st D (e.st+m)=true
    ·have l2:=hM1.Tc (P:=Tryz.prog) (kt:=3) (t:=99) (e:=4) Db N4 (k:=e.st+(m:Int)) (v:=.bool true) (by
      rcases HMI.out.lead (e.st+m) with h|h
      ·exact h.2
      ·exact absurd ((SC _ _ _ _).1 hl) h.1) false
     simp only [NJ,↓reduceIte,kv] at l2;have LW:=A3 (show blk (AK cd) e.st D (m+1)=blk (AK cd) e.st D m++[(e.st+m,e.st+m+1)] by rw [blk,A9 hD,A9 hl]);obtain⟨L,hL⟩:=A8 (blk (AK cd) e.st D m);rw [hL] at LW Bz L6 hbl HM;have KL:=A3 (show ∀p∈L,p.1≠e.st+m from fun p hp=>by have:=L6.out.lo p hp;omega);clear hL hl hD HM hM1;go_upto_region 18 with fail;clear l1 l2 NB;obtain⟨bA,GF,rfl⟩:∃bA GF,bv=.slice bA L.length GF:=by
      rcases Bz.out.row.2 with⟨h,h'⟩|⟨g,cap',cur,h,_⟩
      ·exact⟨_,_,by rw [h,h']⟩
      ·exact⟨_,_,h⟩
     have t0:X1.cell? ⟨gb,0,none⟩=some (.slice bA L.length GF):=by simp [World.cell?,Bz.out.g]
     obtain⟨X2,l3,m3,o1,o2,o3,o4,o5⟩:=Bz.out.num.put (P:=Tryz.prog) (kt:=3) (t:=101) (e:=3) Db Tryz.underlying101 (k:=e.st+(m:Int)) (JA A0 A0) (.int .i64 (L.length:Int));simp only [kv] at l3;rw [atG L (e.st+m) 0 KL.out] at m3;have pQ:=(Bz.out.row).kept (iH o1 o2 o3 o4 o5) (.inr (fun e'=>by have:=Bz.out.XU e';have:=Bz.out.nV;omega));have Ov:gb≠nb:=by omega
     have g2':=(o5 gb Ov).trans Bz.out.g;have t1:X2.cell? ⟨gb,0,none⟩=some (.slice bA L.length GF):=by simp [World.cell?,g2']
     have t2:X2.frozen? ⟨gb,0,none⟩=false:=by simp [World.frozen?,g2']
     have⟨EW,Q9⟩:=AQ pQ (Eg m3 (Eg o1 (Eg o2 (Eg o3 (Eg o4 o5)))));have Iz:gb<X2.heap.size:=by have:=Bz.out.sz;omega
     have KH:V.heap.size≤X2.heap.size:=by have:=Bz.out.sz;omega
     have Ln:=A3 (show some gb≠Value.ownBlock (.slice bA L.length GF) from fun e'=>by have:=Bz.out.XU e'.symm;omega);clear pQ g2' m3 o1 o2 o3 o4 o5 Ov;go_upto_region 20 with (at_builtin;refine Lx _ rfl (.tmp 79) (.tmp 82) 28 rfl V.heap.size 78 i1 _ 3 40 Tryz.underlying28 hi1 hy0 hy1 hy2 rfl AP (.slice bA L.length GF) _ _ rfl (EW.out.alloc _) ⟨X2.heap.size,0,none⟩ 1 1 [.int .i64 (e.st+m),.int .i64 0,.slice none 0 0] rfl rfl (apZ _ _ _ _ _) Bd CJ A0 I7 ?_;intro v' W' hown' hgrow _ DY;obtain⟨g',cap',rfl⟩:=Mp hown';have hc1:=hgrow.cell (a:=⟨gb,0,none⟩) (v:=.slice bA L.length GF) Ga Ln.out;have hf1:W'.frozen? ⟨gb,0,none⟩=false:=(Oe (hgrow.block gb CD Ln.out)).trans Ga);have Xr:=Bz.out.app (a:=e.st+m) Q9.out.1 Q9.out.2.1 Q9.out.2.2.1 Q9.out.2.2.2.1 Q9.out.2.2.2.2.1 Q9.out.2.2.2.2.2 hgrow (by rw [Zx];exact hown');obtain⟨X4,hX4⟩:=A8 (W'.setCell ⟨gb,0,none⟩ (.slice (some ⟨g',0,none⟩) (L.length+1) cap'));rw [hX4] at Xr ⊢;have hrw:=Xr.row;rw [show (L++[(e.st+(m:Int),(0:Int))]).length=L.length+1 by simp] at hrw;have t3:X4.cell? ⟨gb,0,none⟩=some (.slice (some ⟨g',0,none⟩) (L.length+1) cap'):=by simp [World.cell?,Xr.g]
     have t4:X4.cell? ⟨g',L.length*3+1,none⟩=some (.int .i64 0):=by rw [hrw.cellAt _ A0];exact rC L _ _
     have t5:X4.frozen? ⟨g',L.length*3+1,none⟩=false:=hrw.frozenAt _;have ZB:L.length+1≤cap':=by
      rcases hrw.2 with⟨h,_⟩|⟨_,_,_,h,_,_,h2,_⟩
      ·cases h
      ·cases h;exact h2
     have Ny:=A3 Xr;clear hX4 Xr hrw hc1 hf1 DY hgrow hown' t0 t1 t2 l3 Q9 EW Ln Iz KH;go_wp2_with fail;go_roundw;case rel=>
      refine⟨m+1,.slice (some ⟨g',0,none⟩) (L.length+1) cap',by rw [show ((m+1:Nat):Int)=(m:Int)+1 by omega,Int.add_assoc],by omega,?_⟩;rw [LW.out];exact Ny.out.Mr
     case measure=>exact Ai
    ·have l2:=hM1.WH (P:=Tryz.prog) (kt:=3) (t:=99) (e:=4) Db N4 (zm X1) (k:=e.st+(m:Int)) (JA A0 A0) (by
      rcases HMI.out.lead (e.st+m) with h|h
      ·exact absurd ((SC _ _ _ _).2 h.1) hl
      ·exact h.2) false
     simp only [NJ,↓reduceIte,kv] at l2;have hm0:0<m:=by
      rcases UC m with h|h
      ·subst h
       exact absurd (by simpa using eA (AK cd) e.st D) hl
      ·exact h
     obtain⟨M,pa,pb,hL⟩:=jz _ (L6.out.ne mC hm0);have LW:=A3 (show blk (AK cd) e.st D (m+1)=M++[(pa,e.st+m+1)] by rw [blk,A9 hD,A6 hl,hL,Yp]);rw [hL] at Bz hbl;clear hL hl hD HM hM1 L6;have hrw:=Bz.out.row;rw [show (M++[(pa,pb)]).length=M.length+1 by simp] at hrw;obtain⟨g',cap',rfl⟩:=Mp hrw;have t3:X1.cell? ⟨gb,0,none⟩=some (.slice (some ⟨g',0,none⟩) (M.length+1) cap'):=by simp [World.cell?,Bz.out.g]
     have t4:X1.cell? ⟨g',M.length*3+1,none⟩=some (.int .i64 pb):=by rw [hrw.cellAt _ A0];exact rC M _ _
     have t5:X1.frozen? ⟨g',M.length*3+1,none⟩=false:=hrw.frozenAt _;have ZB:M.length+1≤cap':=by
      rcases hrw.2 with⟨h,_⟩|⟨_,_,_,h,_,_,h2,_⟩
      ·cases h
      ·cases h;exact h2
     have aue:M.length+1≤m:=by simpa using hbl
     clear hrw hbl;go_upto_region 20 with fail;clear l1 l2 NB;go_wp2_with fail;go_roundw;case rel=>
      refine⟨m+1,.slice (some ⟨g',0,none⟩) (M.length+1) cap',by rw [show ((m+1:Nat):Int)=(m:Int)+1 by omega,Int.add_assoc],by omega,?_⟩;rw [LW.out];exact Bz.out.Mr
     case measure=>exact Ai
   ·have l1:=hF.WH (P:=Tryz.prog) (kt:=3) (t:=96) (e:=67) Db WO (lz wr) (k:=e.st+(m:Int)) (JA A0 A0) (by unfold Gm;rw [A6 hD]) true
    simp only [↓reduceIte,kv] at l1;have LW:=A3 (show blk (AK cd) e.st D (m+1)=blk (AK cd) e.st D m by rw [blk,A6 hD]);clear hD hF XY;go_wp2_with fail;go_roundw;case rel=>
     refine⟨m+1,bv,by rw [show ((m+1:Nat):Int)=(m:Int)+1 by omega,Int.add_assoc],by omega,?_⟩;rw [LW.out];exact HM.out.below ((AV _ _).alloc (AH _) _)
    case measure=>exact Ai
  ·-- aui
   have dl:decide (e.st+(m:Int)<e.en)=false:=Ad hlt;have HMN:=A3 (show m=(e.en - e.st).toNat by omega);have hm0:0<m:=by omega
   clear hF XY;obtain⟨L,hL⟩:=A8 (blk (AK cd) e.st D m);rw [hL] at HM hbl L6;have Ni:=A3 hL;have hn0:0<L.length:=Gk.2 (L6.out.ne mC hm0);have hL4:L.length≤4096:=by omega
   obtain⟨g,BH,rfl⟩:∃g BH,bv=.slice (some ⟨g,0,none⟩) L.length BH:=by
    rcases HM.out.row.2 with⟨h,h'⟩|⟨g,cap',cur,h,_⟩
    ·omega
    ·exact⟨_,_,h⟩
   have t0:wr.cell? ⟨gb,0,none⟩=some (.slice (some ⟨g,0,none⟩) L.length BH):=by simp [World.cell?,HM.out.g]
   obtain⟨i2,hi2,hs0,hs1,hs2⟩:=Dp oh;obtain⟨U1,lm,D7,gr1⟩:=Qb (P:=Tryz.prog) wr V.heap.size 29 38 i2 (.slice none 0 0) 1 Tryz.underlying29 hi2 hs0 hs1 .i64 .i64 L.length Xc CJ HM.out.sz;rw [N6,show (Value.slice none 0 0).cells=#[Value.slice none 0 0] from rfl,Qs] at D7;have gU:U1.heap[gb]?=_:=(gr1.block gb (by have:=HM.out.sz;have:=HM.out.gV;omega) AR).trans HM.out.g;have u0:U1.cell? ⟨gb,0,none⟩=some (.slice (some ⟨g,0,none⟩) L.length BH):=by simp [World.cell?,gU]
   have u1:U1.cell? ⟨gb,1,none⟩=some (.slice none 0 0):=by simp [World.cell?,gU]
   have u2:U1.frozen? ⟨gb,1,none⟩=false:=by simp [World.frozen?,gU]
   clear hL hlt hme hbl;go_upto_region 23 with fail;obtain⟨pg,X7⟩:=A8 wr.heap.size;rw [X7] at D7 ⊢;obtain⟨U2,I8⟩:=A8 (U1.setCell ⟨gb,1,none⟩ (.slice (some ⟨pg,0,none⟩) L.length L.length));have bN:BN V U2 gb nb g BH pg L (fun _=>.slice none 0 0) (FM (AK cd) L 0 []):=by
    have hgr:=HM.out.XU (j:=g) rfl;have hpr:=D7.lt pg rfl;have Sj:=HM.out.gV;have Nn:=HM.out.nV;have sm:∀k,k<V.heap.size→k≠gb→U2.heap[k]?=wr.heap[k]?:=fun k h1 h2=>by
     rw [←I8,Bb _ _ _ _ h2];exact gr1.block k A0 AR
    refine⟨Sj,Nn,HM.out.gn,?_,?_,?_,?_,fun k h1 h2 h3=>(sm k h1 h2).trans (HM.out.blk k h1 h2 h3),?_,HM.out.num.keep (sm nb Nn (ED HM.out.gn)),?_,?_,fun i hi=>?_,fun i j hi hj _ q hq=>by cases hq⟩
    ·rw [←I8];exact gr1.os.trans HM.out.os
    ·rw [←I8];exact gr1.tape.trans HM.out.tape
    ·rw [←I8];exact gr1.output.trans HM.out.output
    ·rw [←I8];simp;omega
    ·rw [←I8,Cl U1 gb 1 _ _ _ gU]
     rfl
    ·rw [apk,← I8]
     exact PW (HM.out.row.kept gr1 (.inr (by simp [Value.ownBlock]))) au _
    ·rw [←I8]
     have e:((List.range L.length).map fun i=>(fun _=>Value.slice none 0 0) (L.length+i))=List.replicate L.length (Value.slice none 0 0):=by
      apply JR;intro q;by_cases hq:q<L.length
      ·simp [hq]
      ·simp [hq]
     rw [e];exact PW D7 au _
    ·rw [aaJ]
     exact NK _ _ _ _
   rw [I8];have VY:=A3 bN;have HCL:=A3 (show ∀k,k<L.length→(JV L k∈D∧JV L k+1=(L.getD k (0,0)).2)∧∀s∈CN (AK cd (JV L k)) (JV L k),(∃p∈L,p.1=s)∧Qv s from fun k hk=>by
    have hp:L[k]∈L:=CQ hk;have e1:L.getD k (0,0)=L[k]:=by simp [List.getD,Ab hk]
    have hla:=L6.out.last _ hp;have hlo:=L6.out.lo _ hp;unfold JV;rw [e1];refine⟨⟨hla,by omega⟩,fun s hs=>?_⟩;have hnb:¬NP (AK cd) e.st e.en (L[k].2 - 1):=by
     rcases Lr.out.b with h|h
     ·exact h.2 _ hla
     ·have:=(Lr.out.dr _ h.1).range _ _ _ g2
      omega
    have hin:e.st≤s∧s<e.en:=Sw fun h=>hnb ⟨s,hs,h⟩;have Qn:s∈D:=by
     rcases Lr.out.cl _ hla s hs hin.1 hin.2 with h|h
     ·exact h
     ·cases h
    refine⟨?_,JA A0 A0⟩;have hmm:=HMN.out;refine L6.out.num s hin.1 A0 Qn ?_;by_cases hbr:Cg (AK cd (L[k].2 - 1)).op=true
    ·rw [SC]
     refine .inr ⟨_,hla,?_⟩;unfold Hj;rw [A9 hbr];exact hs
    ·have:s=L[k].2:=by
      unfold CN at hs;unfold Cg at hbr;split at hs
      ·cases hs
      ·split at hs
       ·simp_all
       ·split at hs
        ·rename_i h;rcases h with h|h<;>simp [h] at hbr
        ·simp at hs;omega
     rw [this] at Qn hin ⊢
     exact L6.out.cl _ hp A0 Qn)
   clear I8 gU u0 u1 u2 lm D7 gr1 bN HM L6 t0 X7;go_loopw [16,17,19,20,103] (fun a16 a17 a19 a20 gL wr=>∃(k:Nat) (val:Nat→Value),k≤L.length∧gL=.int .i64 (k:Int)∧BN V wr gb nb g BH pg L val (FM (AK cd) L k [])) (fun _ _ _ _ gL _=>L.length - (intOf gL).toNat);case atStart=>exact⟨0,_,Ca _,rfl,VY.out⟩
   case round=>
    obtain⟨k',val,hk',rfl,hN⟩:=hrel;clear VY;have HN:=A3 hN;clear hN;have t0:wr.cell? ⟨gb,0,none⟩=some (.slice (some ⟨g,0,none⟩) L.length BH):=by simp [World.cell?,HN.out.gg]
    have t1:wr.cell? ⟨gb,1,none⟩=some (.slice (some ⟨pg,0,none⟩) L.length L.length):=by simp [World.cell?,HN.out.gg]
    have hrg:=HN.out.rg;by_cases hlt:k'<L.length
    ·have dl:decide ((k':Int)<(L.length:Int))=true:=by simpa using hlt
     obtain⟨⟨hlD,hlt2⟩,hsu⟩:=HCL.out k' hlt;obtain⟨p1,p2⟩:=RH.out _ hlD;obtain⟨la,hla⟩:=A8 (JV L k');have ER:=A3 (show EX (AK cd) L k'=Gf L (CN (AK cd la) la) by unfold EX;rw [hla]);rw [hla] at hlD hlt2 hsu p1 p2;have bt:wr.cell? ⟨g,k'*3+1,none⟩=some (.int .i64 (la+1)):=by rw [HN.out.Na.cellAt _ A0,Rj L val hlt A0,hlt2];rfl
     have hF:=HN.out.im HF3.out A0 A0;obtain⟨i,hi⟩:=A8 (AK cd la);have l1:∀y:Ext wr,(Instr.lookup 96 (.map (some fb)) (.int .i64 la) false).run Tryz.prog y.w=.ok (.agg #[.int .u8 i.op,.int .i64 i.a,.int .i64 i.b,.int .i64 i.c,.int .i64 i.AD]) y.w:=fun y=>by
      have:=(hF.ext y).Tc (P:=Tryz.prog) (kt:=3) (t:=96) (e:=67) Db WO (k:=la) (v:=i.val) (by unfold Gm;rw [A9 hlD,hi]) false;simpa only [NJ,↓reduceIte,Ins.val,kv] using this
     rw [hi] at ER hsu p2;have w1:IntKind.i64.wrap (la+1 - 1)=la:=by rw [Dn _ A0];omega
     have⟨Ml,HSU⟩:=AQ (fun W:World=>jU i la W p1.1 p1.2 p2.1 p2.2) hsu;clear hi hlD hlt2 hla hF hsu p2;obtain⟨hrg1,hrg2,hrg3⟩:=hrg;have sg:g<wr.heap.size:=hrg1.2;go_upto_region 26 with fail;refine as5 12 14 _ _ rfl rfl rfl A4 A4 ?_;simp only [Act.put,Ax,B8,Aw,Fp,List.take_zero,G0,List.drop_zero,Nat.reduceSub];repeat (go_big_quiet_step (fail))
     refine BD ?_;rintro _ ⟨y,rfl⟩;go_wp2_with (go_at_call 33;refine (Ml.out _).mono ?_;rintro e' W4 ⟨⟨v,rfl,⟨SA,I5,rfl,sc1,sc2,sc3⟩,sc4⟩,hb4⟩);refine ZM ?_;go_upto_region 27 with fail;obtain⟨S,hS⟩:=A8 (CN i la);have hS2:S.length≤2:=hS▸Zc _ _;rw [hS] at ER HSU sc1 sc3 sc4 ⊢;have hy:=y.h.size;have⟨HN4,I4⟩:=AQ ((HN.out.below y.h).below hb4) (show Ints W4 (.slice SA S.length I5) S from⟨SA,I5,rfl,sc1,sc2,sc3⟩);have DJ:=A3 (show ∀q,(Value.slice SA S.length I5).ownBlock=some q→q≠g∧q≠pg∧∀i,i<2*L.length→(val i).ownBlock≠some q from fun q hq=>by
      have h1:=sc4 q hq;refine⟨by omega,by omega,fun i hi h2=>?_⟩;have:=((HN.out.own i hi).lt q h2).2
      omega)
     clear hS sc1 sc2 sc3 sc4 hb4 hy y HN t0 t1 bt l1 w1 Ml sg hrg1 hrg2 hrg3 p1;obtain⟨wo,rfl⟩:∃wo:World,wo=wr:=⟨_,rfl⟩;go_loopw [19,20,124] (fun a19 a20 a124 wr=>∃(j:Nat) (val:Nat→Value),j≤S.length∧a124=.int .i64 (j:Int)∧BN V wr gb nb g BH pg L val (FM (AK cd) L k' (Gf L (S.take j)))∧Ints wr (.slice SA S.length I5) S∧∀q,(Value.slice SA S.length I5).ownBlock=some q→q≠g∧q≠pg∧∀i,i<2*L.length→(val i).ownBlock≠some q) (fun _ _ a124 _=>S.length - (intOf a124).toNat);case atStart=>exact⟨0,_,Ca _,rfl,HN4.out,I4.out,DJ.out⟩
     case round=>
      clear HN4 I4 DJ val;obtain⟨j,val,hj,rfl,hN,hI,hD'⟩:=hrel;have⟨HN,HI,HD⟩:=Bh hN hI hD';clear hN hI hD';by_cases hjl:j<S.length
      ·obtain⟨A',EY,hv,i1',i2',i3'⟩:=HI.out
       cases hv;obtain⟨sb,so,rfl,JK,hsc⟩:=i3' A0;obtain⟨s,hs⟩:=A8 (S[j]);have x1:wr.cell? ⟨sb,so+j,none⟩=some (.int .i64 s):=by rw [hsc j hjl,← hs];simp [List.getD,Ab hjl]
       have hS?:S[j]?=some s:=by rw [Ab hjl,hs]
       obtain⟨tu,hkw⟩:=HSU.out s (Bj hS?);obtain⟨n1,n2,n3⟩:=fT tu;obtain⟨p,hp⟩:=A8 (idx L s);have HNT:=A3 (asL L S j s hS?);rw [hp] at n1 n2 HNT;have l2:=HN.out.num.Tc (P:=Tryz.prog) (kt:=3) (t:=101) (e:=3) Db Tryz.underlying101 (k:=s) (v:=.int .i64 (p:Int)) n1 false;simp only [NJ,↓reduceIte,kv] at l2;have dl2:decide ((j:Int)<(S.length:Int))=true:=by simpa using hjl
       obtain⟨l,hl⟩:=A8 (Gf L (S.take j));have Gi:l.length≤2:=by
        have:=qX L (S.take j);rw [hl] at this;simp at this;omega
       rw [hl] at HN HNT;have bn:wr.cell? ⟨g,k'*3+2,none⟩=some (val k'):=by rw [HN.out.Na.cellAt _ A0,Rj L val hlt A0];rfl
       have bf:wr.frozen? ⟨g,k'*3+2,none⟩=false:=HN.out.Na.frozenAt _;have hok:=HN.out.own k' A0;rw [jM _ _ _ _ hlt] at hok;have NI:=A3 (wU (val k') l (p:Int) wr (NT hok));unfold maxLen at i2';obtain⟨vA,Cv,hval⟩:∃vA Cv,val k'=.slice vA l.length Cv:=by
        rcases hok.2 with⟨h,h'⟩|⟨g,cap',cur,h,_⟩
        ·exact⟨_,_,by rw [h,h']⟩
        ·exact⟨_,_,h⟩
       have⟨Ea,CG⟩:=AQ hok hval;rw [hval] at bn NI;clear hsc i3' hs tu n1 n3 hp hl hkw hok hval hS?;by_cases hin:(p:Int)∈l
       ·have HAD:=A3 (show Fq l (p:Int)=l by unfold Fq;rw [A9 hin])
        rw [Ac hin] at NI;clear hin;go_wp2_with (go_at_call 34;refine NI.out.mono ?_;rintro e' w' ⟨rfl,rfl⟩);go_roundw;case rel=>
         refine⟨j+1,val,by omega,by go_num,?_,HI.out,HD.out⟩;rw [HNT.out,HAD.out];exact HN.out
        case measure=>exact Ai
       ·have HAD:=A3 (show Fq l (p:Int)=l++[(p:Int)] by unfold Fq;rw [A6 hin])
        have G4:=A3 hin;rw [Ad hin] at NI;clear hin;obtain⟨iI,Ef,Es,EN,FN⟩:=Dp Oy;have hsz:=HN.out.rg;have HNg:=A3 (show some g≠Value.ownBlock (.slice vA l.length Cv) from fun e'=>by
         rw [←CG.out] at e'
         exact Fs Ea.out HN.out.Na AP g e'.symm rfl)
        have hg0:g<wr.heap.size:=hsz.1.2;have hOA:wr.ownsRow V.heap.size 3 1 (.slice vA l.length Cv) l.length (Aq l):=by rw [←CG.out];exact Ea.out
        have HOA:=A3 hOA;have hVw:=HN.out.sz;clear hOA hsz;go_upto_region 32 with (first|(go_at_call 34;refine NI.out.mono ?_;rintro e' w' ⟨rfl,rfl⟩)|(at_builtin;refine Lx _ rfl (.tmp 142) (.tmp 144) 38 rfl V.heap.size 3 iI (.int .i64 0) 1 8 JJ Ef Es EN FN rfl AP (.slice vA l.length Cv) _ _ rfl (HOA.out.alloc _) ⟨wr.heap.size,0,none⟩ 1 1 [.int .i64 (p:Int)] rfl rfl (Du _ _ _) Bd CJ A0 I7 ?_;intro v' W' hown' hgrow _ DY;obtain⟨g',cap',rfl⟩:=Mp hown';have hc1:=hgrow.cell (a:=⟨g,k'*3+2,none⟩) (v:=.slice vA l.length Cv) Ga HNg.out;have hf1:W'.frozen? ⟨g,k'*3+2,none⟩=false:=(Oe (hgrow.block g CD HNg.out)).trans Ga));have Ks:=HN.out.app (x:=0) (i:=k') (y:=(p:Int)) A0 ((AV wr.heap.size wr).alloc (AH _) (.cells #[.int .i64 (p:Int)] 3)) (by rw [CG.out];exact hgrow) (by rw [jM _ _ _ _ hlt];simpa [Aq] using hown') (by rw [CG.out];exact DY) g (k'*3+2) (.inl ⟨hlt,rfl,rfl⟩);rw [jM _ _ _ _ hlt] at Ks;have hIX:=((HI.out.below ((AV wr.heap.size wr).alloc (AH _) (.cells #[.int .i64 (p:Int)] 3))).grown hgrow (fun q hq hq2=>(HD.out q hq).2.2 k' A0 (by rw [CG.out];exact hq2))).grown (Hz W' g (k'*3+2) (.slice (some ⟨g',0,none⟩) (l.length+1) cap')) (fun q hq hq2=>(HD.out q hq).1 (by simpa using hq2.symm));have hDX:∀q,(Value.slice (some ⟨sb,so,none⟩) S.length I5).ownBlock=some q→q≠g∧q≠pg∧∀i,i<2*L.length→(upd val k' (.slice (some ⟨g',0,none⟩) (l.length+1) cap') i).ownBlock≠some q:=fun q hq=>by
         obtain⟨d1,d2,d3⟩:=HD.out q hq;refine⟨d1,d2,fun i hi=>?_⟩;unfold upd;split
         ·rcases DY with h|h
          ·rw [h,← CG.out];exact d3 k' A0
          ·rw [h,F9]
           intro e';simp [Value.ownBlock] at hq e';omega
         ·exact d3 i hi
        obtain⟨X,hX⟩:=A8 (W'.setCell ⟨g,k'*3+2,none⟩ (.slice (some ⟨g',0,none⟩) (l.length+1) cap'));rw [hX] at Ks hIX ⊢;obtain⟨Kv,ve⟩:=A8 (upd val k' (.slice (some ⟨g',0,none⟩) (l.length+1) cap'));rw [ve] at Ks hDX;have hop:=Ks.own (L.length+p) A0;have hpl:upd (FM (AK cd) L k' l) k' (l++[(p:Int)]) (L.length+p)=FM (AK cd) L k' l (L.length+p):=by unfold upd;rw [A6 A0]
        rw [hpl] at hop;have⟨P9,IM⟩:=AQ (aq3 (AK cd) L k' p l hlt n2 G4.out) hpl;obtain⟨pl,gA⟩:=A8 (FM (AK cd) L k' l (L.length+p));have asu:pl.length≤5000:=by
         rw [←gA];unfold FM;rw [A6 A0];have h1:=atx (AK cd) L k' (L.length+p - L.length);have h2:(if ((L.length+p - L.length:Nat):Int)∈l then [(k':Int)] else []).length≤1:=by split<;>simp
         rw [G5];omega
        rw [gA] at hop P9 IM;obtain⟨pA,B7,hvp⟩:∃pA B7,Kv (L.length+p)=.slice pA pl.length B7:=by
         rcases hop.2 with⟨h,h'⟩|⟨g,cap',cur,h,_⟩
         ·exact⟨_,_,by rw [h,h']⟩
         ·exact⟨_,_,h⟩
        have S9:=A3 hvp;have q0:X.cell? ⟨gb,1,none⟩=some (.slice (some ⟨pg,0,none⟩) L.length L.length):=by simp [World.cell?,Ks.gg]
        have q1:X.cell? ⟨pg,p,none⟩=some (.slice pA pl.length B7):=by rw [Ks.C8.cellAt _ A0,D8,FI n2,← hvp];rfl
        have q2:X.frozen? ⟨pg,p,none⟩=false:=Ks.C8.frozenAt _;have VH:=A3 (show some pg≠Value.ownBlock (.slice pA pl.length B7) from fun e'=>by
         rw [←hvp] at e'
         exact Fs hop Ks.C8 AP pg e'.symm rfl)
        have HNb:=A3 (show some gb≠Value.ownBlock (.slice pA pl.length B7) from fun e'=>by
         rw [←hvp] at e';have:=(hop.lt gb e'.symm).1;have:=Ks.gV
         omega)
        rw [hvp] at hop;have⟨IL,Ds,HIX,HDX⟩:=CU hop Ks hIX hDX;have auF:pg<X.heap.size:=Ks.rg.2.1.2;have aug:gb<X.heap.size:=by have:=Ks.sz;have:=Ks.gV;omega
        have Ws:=Ks.sz;clear hX Ks hIX hDX hop hvp ve hpl gA hc1 hf1 DY hgrow hown' HN HI HD NI Ea CG HOA HNg hg0 hVw bn bf l2 x1 JK;have Jn:=A3 (show ∀(W2:World) (v2:Value),((X.alloc (.cells #[.int .i64 (k':Int)] 3)).drew).grownBy W2 (Value.slice pA pl.length B7).ownBlock→W2.ownsRow V.heap.size 3 1 v2 (pl.length+1) (Aq pl++[.int .i64 (k':Int)])→(v2.ownBlock=(Value.slice pA pl.length B7).ownBlock∨v2.ownBlock=some ((X.alloc (.cells #[.int .i64 (k':Int)] 3)).drew).heap.size)→
          ∃dK,BN V (W2.setCell ⟨pg,p,none⟩ v2) gb nb g BH pg L dK (FM (AK cd) L k' (l++[(p:Int)]))∧Ints (W2.setCell ⟨pg,p,none⟩ v2) (.slice (some ⟨sb,so,none⟩) S.length I5) S∧∀q,(Value.slice (some ⟨sb,so,none⟩) S.length I5).ownBlock=some q→q≠g∧q≠pg∧∀i,i<2*L.length→(dK i).ownBlock≠some q from fun W2 v2 hg2 ho2 hb2=>by
         have bD:Below X.heap.size X ((X.alloc (.cells #[.int .i64 (k':Int)] 3)).drew):=Dl ((AV _ _).alloc (AH _) _);have h3:=Ds.out.app (x:=0) (i:=L.length+p) (y:=(k':Int)) A0 bD (by rw [S9.out];exact hg2) (by rw [IM.out];simpa [Aq] using ho2) (by rw [S9.out];exact hb2) pg p (.inr ⟨by omega,rfl,by omega⟩);rw [IM.out] at h3;refine⟨_,by rw [P9.out];exact h3,((HIX.out.below bD).grown hg2 (fun q hq hq2=>(HDX.out q hq).2.2 (L.length+p) A0 (by rw [S9.out];exact hq2))).grown (Hz W2 pg p v2) (fun q hq hq2=>(HDX.out q hq).2.1 (by simpa using hq2.symm)),fun q hq=>?_⟩;obtain⟨d1,d2,d3⟩:=HDX.out q hq;refine⟨d1,d2,fun i hi=>?_⟩;unfold upd;split
         ·rcases hb2 with h|h
          ·rw [h,← S9.out];exact d3 _ A0
          ·rw [h]
           intro e';have hlt3:q<X.heap.size:=by
            obtain⟨A5,auf,hv5,_,_,h5⟩:=HIX.out;cases hv5;obtain⟨b5,o5,OS,Tt,_⟩:=h5 A0;cases OS;simp [Value.ownBlock] at hq;omega
           have e2:(X.alloc (.cells #[.int .i64 (k':Int)] 3)).drew.heap.size=X.heap.size+1:=by show (X.alloc _).heap.size=_;simp
           rw [e2] at e';cases e';omega
         ·exact d3 i hi)
        clear HIX HDX Ds P9 IM S9;refine Yl ?_;go_region_law (refine eN rfl (.tmp 155) (.tmp 157) 38 rfl V.heap.size 3 iI (.int .i64 0) 1 8 JJ Ef Es EN FN rfl AP (.slice pA pl.length B7) pl.length (Aq pl) XZ (oW (om IL.out) _) ⟨X.heap.size,0,none⟩ 1 1 [.int .i64 (k':Int)] XZ rfl (Du _ _ _) Bd CJ A0 (by show V.heap.size≤(World.alloc _ _).heap.size;rw [F9];omega) ?_;intro v' W2 hown2 hgrow2 RB;obtain⟨g2,EY,rfl⟩:=Mp hown2;have hc1:=hgrow2.cell (a:=⟨pg,p,none⟩) (v:=.slice pA pl.length B7) Ga VH.out;have hc2:=hgrow2.cell (a:=⟨gb,1,none⟩) (v:=.slice (some ⟨pg,0,none⟩) L.length L.length) Ga HNb.out;have hf1:W2.frozen? ⟨pg,p,none⟩=false:=(Oe (hgrow2.block pg CD VH.out)).trans Ga)
        all_goals
         obtain⟨dK,f1,f2,f3⟩:=Jn.out W2 _ hgrow2 hown2 RB;have⟨F1,F2,F3⟩:=Bh f1 f2 f3;clear f1 f2 f3 hgrow2 hown2 RB hc1 hc2 hf1;refine ZM ?_;go_wp2_with fail;go_roundw;case rel=>
          refine⟨j+1,dK,by omega,by go_num,?_,F2.out,F3.out⟩;rw [HNT.out,HAD.out];exact F1.out
         case measure=>exact Ai
      ·obtain rfl:j=S.length:=by omega
       have dl2:decide ((S.length:Int)<(S.length:Int))=false:=by simp
       rw [Gx] at HN;go_wp2_with fail;go_roundw;case rel=>
        refine⟨k'+1,val,by omega,by go_num,?_⟩;rw [←wm,ER.out];exact HN.out
       case measure=>exact Ai
    ·obtain rfl:k'=L.length:=by omega
     have dl:decide ((L.length:Int)<(L.length:Int))=false:=by simp
     have hB3:=B3.out.size;have sR:w.heap.size+1<V.heap.size:=asm KR3.out;have rq:w.heap.size+1≠gb:=by omega
     have kR:=(HN.out.blk (w.heap.size+1) sR rq A0).trans KR3.out;have r0:wr.cell? ⟨w.heap.size+1,0,none⟩=some (.slice none 0 0):=by simp [World.cell?,kR]
     have r1:wr.cell? ⟨w.heap.size+1,1,none⟩=some (.slice none 0 0):=by simp [World.cell?,kR]
     have f0:wr.frozen? ⟨w.heap.size+1,0,none⟩=false:=by simp [World.frozen?,kR]
     have f1:wr.frozen? ⟨w.heap.size+1,1,none⟩=false:=by simp [World.frozen?,kR]
     go_wp2_with fail;have G1:wr.grownBy ((wr.setCell ⟨w.heap.size+1,0,none⟩ (.slice (some ⟨g,0,none⟩) L.length BH)).setCell ⟨w.heap.size+1,1,none⟩ (.slice (some ⟨pg,0,none⟩) L.length L.length)) (some (w.heap.size+1)):=by
      refine⟨rfl,rfl,rfl,by simp,fun j _ hne=>?_⟩;have:j≠w.heap.size+1:=fun e=>hne (by rw [e]);rw [Bb _ _ _ _ this,Bb _ _ _ _ this]
     have hgr:=HN.out.graph G1 sR;have V7:=A3 (show lQ w.heap.size (.slice (some ⟨g,0,none⟩) L.length BH) (.slice (some ⟨pg,0,none⟩) L.length L.length) from by
      have h1:=HN.out.rg;have h2:=B3.out.size;refine⟨fun q hq=>?_,fun q hq=>?_⟩
      ·have e:g=q:=by simpa [Value.ownBlock] using hq
       omega
      ·have e:pg=q:=by simpa [Value.ownBlock] using hq
       omega)
     have JZ:Below w.heap.size w ((wr.setCell ⟨w.heap.size+1,0,none⟩ (.slice (some ⟨g,0,none⟩) L.length BH)).setCell ⟨w.heap.size+1,1,none⟩ (.slice (some ⟨pg,0,none⟩) L.length L.length)):=by
      refine CY (CY ⟨HN.out.os.trans B3.out.os,HN.out.tape.trans B3.out.tape,HN.out.output.trans B3.out.output,FK B3.out.size HN.out.sz,fun j hj=>?_⟩ ?_ _) ?_ _
      ·exact (HN.out.blk j A0 A0 A0).trans (B3.out.block j hj)
      ·simp
      ·simp
     refine Af (v:=.tuple #[.agg #[.slice (some ⟨g,0,none⟩) L.length BH,.slice (some ⟨pg,0,none⟩) L.length L.length],.int .i64 (-1),.int .i64 0]) bL rfl (.inr (.inr (.inr ⟨Ur.out,k,e,D,L,_,_,rfl,he,Lr.out,?_,rfl,hgr.1,hgr.2,JZ,V7.out⟩)));rw [←HMN.out];exact Ni.out
section
open Go.ChangeShapes Go.WideShapes Go.ChangeAt Go.RowKit
open Go.ChangeShapes Go.WideShapes Go.ChangeAt Go.RowKit
open Go.ChangeShapes Go.WideShapes Go.ChangeAt Go.RowKit
structure Ra (n:Nat) (e:Int) (x:AU):Prop where
 lo:e≤x.lo
 hi:x.lo<x.hi
 two:x.nx.length≤2
 nx:∀t∈x.nx,0≤t∧t<n
 ne:¬(x.nx.length=2∧x.nx.getD 0 0=x.nx.getD 1 0)
def Dg (n:Nat):Int→List AU→Int→Prop
 | a,[],z=>a=z
 | a,x :: xs,z=>Ra n a x∧Dg n x.hi xs z
theorem Dg.append {n:Nat} {l2:List AU}:∀ {l1:List AU} {a z:Int},Dg n a (l1++l2) z↔∃m,Dg n a l1 m∧Dg n m l2 z
 | [],a,z=>⟨fun h=>⟨a,rfl,h⟩,fun ⟨m,h1,h2⟩=>by cases h1;exact h2⟩
 | e :: l1,a,z=>by
  constructor
  ·rintro⟨h1,h3⟩
   obtain⟨m,h4,h5⟩:=Dg.append.1 h3;exact⟨m,⟨h1,h4⟩,h5⟩
  ·rintro⟨m,⟨h1,h3⟩,h4⟩
   exact⟨h1,Dg.append.2 ⟨m,h3,h4⟩⟩
theorem Dg.RP {n:Nat}:∀ {l:List AU} {a z z':Int},Dg n a l z→Dg n a l z'→z=z'
 | [],a,z,z',h,h'=>by cases h;exact h'
 | e :: l,a,z,z',h,h'=>Dg.RP h.2 h'.2
theorem Dg.snoc {n:Nat} {l:List AU} {x:AU} {a m:Int} (h:Dg n a l m) (h1:Ra n m x):Dg n a (l++[x]) x.hi:=Dg.append.2 ⟨m,h,h1,rfl⟩
theorem Dg.no {n:Nat} {G:List AU} {k:Nat} {x:AU} {m:Int} (hx:G[k]?=some x) (h:Dg n 0 (G.take k) m) (hno:¬Ra n m x):∀z,¬Dg n 0 G z:=by
 intro z hz;have hk:k<G.length:=(Bc.1 hx).1;have e1:G=G.take k++(x :: G.drop (k+1)):=by
  have:=Ul k G;rw [ZX hk] at this;have e2:G[k]=x:=by rw [Ab hk] at hx;exact FZ hx
  rw [e2] at this;exact this.symm
 rw [e1] at hz;obtain⟨m',h1,h2⟩:=Dg.append.1 hz;have:=Dg.RP h h1;subst this;exact hno h2.1
structure Dm (G:List AU) (P:List (List Int)):Prop where
 ne:G≠[]
 len:P.length=G.length
 ok:∃z,Dg G.length 0 G z
 prev:(List.range G.length).map (J6 G G.length [])=P
theorem E7.slice {w:World} {v:Value} {G:List AU} (h:E7 w v G):∃A cap,v=.slice A G.length cap∧G.length≤cap∧cap≤2 ^ 63 - 1:=by
 obtain⟨A,cap,h1,h2,h3,_⟩:=h;unfold maxLen at h3;exact⟨A,cap,h1,h2,h3⟩
theorem E7.at_ {w wr:World} {A:Option Addr} {cap:Nat} {G:List AU} (h:E7 w (.slice A G.length cap) G) (hb:Below w.heap.size w wr) {j:Nat} (hj:j<G.length) :
  ∃x nv b off,G[j]?=some x∧A=some ⟨b,off,none⟩∧b<w.heap.size∧wr.cell? ⟨b,off+j*3,none⟩=some (.int .i64 x.lo)∧wr.cell? ⟨b,off+j*3+1,none⟩=some (.int .i64 x.hi)∧wr.cell? ⟨b,off+j*3+2,none⟩=some nv∧Ints w nv x.nx:=by
 obtain⟨A',cap',hv,_,_,h4⟩:=h;cases hv;obtain⟨b,off,rfl,hlt,hc⟩:=h4 A0;obtain⟨c0,c1,nv,c2,c3⟩:=hc j _ (Ab hj);exact⟨G[j],nv,b,off,Ab hj,rfl,hlt,(hb.cell (p:=⟨b,_,none⟩) hlt).trans c0,(hb.cell (p:=⟨b,_,none⟩) hlt).trans c1,(hb.cell (p:=⟨b,_,none⟩) hlt).trans c2,c3⟩
theorem Ints.slice {w:World} {v:Value} {l:List Int} (h:Ints w v l):∃A cap,v=.slice A l.length cap∧l.length≤cap∧cap≤2 ^ 63 - 1:=by
 obtain⟨A,cap,h1,h2,h3,_⟩:=h;unfold maxLen at h3;exact⟨A,cap,h1,h2,h3⟩
theorem Ints.at_ {w wr:World} {A:Option Addr} {cap:Nat} {l:List Int} (h:Ints w (.slice A l.length cap) l) (hb:Below w.heap.size w wr) {j:Nat} (hj:j<l.length) :
  ∃s b off,l[j]?=some s∧A=some ⟨b,off,none⟩∧b<w.heap.size∧wr.cell? ⟨b,off+j,none⟩=some (.int .i64 s):=by
 obtain⟨A',cap',hv,_,_,h4⟩:=h;cases hv;obtain⟨b,off,rfl,hlt,hc⟩:=h4 A0;refine⟨l[j],b,off,Ab hj,rfl,hlt,?_⟩;rw [hb.cell (p:=⟨b,_,none⟩) hlt,hc j hj];simp [List.getD,Ab hj]
theorem Kn {w:World} {q B s n:Nat} {cs:Array Value} {t e:TypeId} {fr:Nat×Nat} {v:Value} {xs:List Value} (hq:w.heap[q]?=some (.cells cs t fr)) (h:w.ownsRow B e s v n xs) (hne:t≠e):some q≠v.ownBlock:=by
 intro e1;rcases h.2 with⟨rfl,_⟩|⟨g,cap,cur,rfl,_,hg,_⟩
 ·cases e1
 ·simp [Value.ownBlock] at e1
  subst e1;rw [hq] at hg;cases hg;exact hne rfl
theorem bC (bv pv:Value) (G:List AU) (P:List (List Int)) (w:World) (HG:E7 w bv G) (HP:Dk w pv P) (hn:G.length≤5000) (BK:∀x∈G,x.nx.length≤5000) :
  Calls Tryz.prog 35 #[.agg #[bv,pv]] w fun e w'=>(∃r:Bool,e=.returned (.bool r)∧(r=true↔Dm G P))∧Below w.heap.size w w':=by
 obtain⟨A,cap,rfl,hc1,hc2⟩:=HG.slice;obtain⟨PA,B7,rfl,hp1,hp2⟩:=HP.slice;have⟨NM,Tw,ER⟩:=Bh HG HP BK;clear HG HP BK;obtain⟨V0,Bq⟩:=A8 (w.alloc (.cells #[.slice A G.length cap,.slice PA P.length B7] 31));have b0:Below w.heap.size w V0:=Bq▸(AV _ _).alloc (AH _) _;have s0:w.heap.size<V0.heap.size:=by rw [←Bq];simp
 have k0:V0.heap[w.heap.size]?=some (.cells #[.slice A G.length cap,.slice PA P.length B7] 31):=by rw [←Bq];exact AY _ _
 have y0:V0.cell? ⟨w.heap.size,0,none⟩=some (.slice A G.length cap):=by simp [World.cell?,k0]
 have y1:V0.cell? ⟨w.heap.size,1,none⟩=some (.slice PA P.length B7):=by simp [World.cell?,k0]
 have⟨K0,B0⟩:=AQ k0 b0;clear k0 b0;go_enter Tryz.func35,Tryz.ntmps35;by_cases q1:G.length=0
 ·have d1:((G.length:Int)==0)=true:=by simp [q1]
  have HQ:=A3 q1;clear q1;go_wp2_with fail;go_ret;exact⟨⟨false,rfl,by simp;intro h;exact h.ne (iQ.1 HQ.out)⟩,B0.out⟩
 have d1:((G.length:Int)==0)=false:=Me.2 A0;by_cases q2:P.length=G.length;case neg=>
  have d2:((P.length:Int) != (G.length:Int))=true:=by simp;omega
  have HQ:=A3 q2;clear q2;go_wp2_with fail;go_ret;exact⟨⟨false,rfl,by simp;intro h;exact HQ.out h.len⟩,B0.out⟩
 have d2:((P.length:Int) != (G.length:Int))=false:=by simp;omega
 have⟨HQ1,HQ2⟩:=AQ q1 q2;have hn0:0<G.length:=by omega
 clear q1 q2;obtain⟨i2,hi2,hs0,hs1,hs2⟩:=Dp oh;obtain⟨U1,lm,D7,gr1⟩:=Qb (P:=Tryz.prog) V0 V0.heap.size 29 38 i2 (.slice none 0 0) 1 Tryz.underlying29 hi2 hs0 hs1 .i64 .i64 G.length Xc CJ (AH _);rw [N6,show (Value.slice none 0 0).cells=#[Value.slice none 0 0] from rfl,Qs] at D7;have HPM:=A3 (PM.made gr1 (AV _ _) D7);have u0:U1.cell? ⟨w.heap.size,0,none⟩=some (.slice A G.length cap):=by rw [HPM.out.AA.cell (p:=⟨w.heap.size,0,none⟩) s0];exact y0
 clear D7 gr1;go_upto_region 6 with fail;obtain⟨pg,X7⟩:=A8 V0.heap.size;rw [X7] at HPM ⊢;clear Bq lm u0 d1 d2 X7;rw [←aqV G] at HPM;go_loopw [4,5,6,8,29] (fun a4 a5 a6 a8 a29 wr=>∃(k:Nat) (e:Int) (val:Nat→Value),k≤G.length∧a29=.int .i64 (k:Int)∧a4=.int .i64 e∧Dg G.length 0 (G.take k) e∧PM V0 wr pg G.length val (J6 G k [])) (fun _ _ _ _ a29 _=>G.length - (intOf a29).toNat);case atStart=>exact⟨0,0,_,Ca _,rfl,rfl,rfl,HPM.out⟩
 case round=>
  obtain⟨k,e,val,hk,rfl,rfl,hok,Ob⟩:=hrel;clear HPM;have⟨Ea,HM⟩:=AQ hok Ob;have BW:=A3 (B0.out.trans (Ob.AA.mono A0));have sB:=Ob.AA.size;clear hok Ob;by_cases hlt:k<G.length
  ·obtain⟨x,nv,b,off,hx,rfl,hbl,c0,c1,c2,hI⟩:=NM.out.at_ BW.out hlt
   obtain⟨NA,CX,rfl,hn1,hn2⟩:=hI.slice;have⟨HI,HX,HXM⟩:=Bh hI hx (Bj hx);have hxl:=ER.out x HXM.out;have D6:=A3 (show ¬Ra G.length e x→∀z,¬Dg G.length 0 G z from fun h=>Dg.no hx Ea.out h);have dl:decide ((k:Int)<(G.length:Int))=true:=by simpa using hlt
   clear hx hI;by_cases q3:e≤x.lo;case neg=>
    have d3:decide (x.lo<e)=true:=by simp;omega
    have HQ:=A3 (D6.out (fun h=>q3 h.lo));clear q3;go_wp2_with fail;go_ret;exact⟨⟨false,rfl,by simp;intro h;obtain⟨z,hz⟩:=h.ok;exact HQ.out z hz⟩,BW.out.alloc A0 _⟩
   have d3:decide (x.lo<e)=false:=by simp;omega
   by_cases q4:x.lo<x.hi;case neg=>
    have d4:decide (x.hi≤x.lo)=true:=by simp;omega
    have HQ:=A3 (D6.out (fun h=>q4 h.hi));clear q4 q3;go_wp2_with fail;go_ret;exact⟨⟨false,rfl,by simp;intro h;obtain⟨z,hz⟩:=h.ok;exact HQ.out z hz⟩,BW.out.alloc A0 _⟩
   have d4:decide (x.hi≤x.lo)=false:=by simp;omega
   by_cases q5:x.nx.length≤2;case neg=>
    have d5:decide ((2:Int)<(x.nx.length:Int))=true:=by simp;omega
    have HQ:=A3 (D6.out (fun h=>q5 h.two));clear q5 q4 q3;go_wp2_with fail;go_ret;exact⟨⟨false,rfl,by simp;intro h;obtain⟨z,hz⟩:=h.ok;exact HQ.out z hz⟩,BW.out.alloc A0 _⟩
   have d5:decide ((2:Int)<(x.nx.length:Int))=false:=by simp;omega
   go_upto_region 12 with fail;obtain⟨X,hX⟩:=A8 (wr.alloc (.cells #[.int .i64 x.lo,.int .i64 x.hi,.slice NA x.nx.length CX] 78));have kX:X.heap[wr.heap.size]?=some (.cells #[.int .i64 x.lo,.int .i64 x.hi,.slice NA x.nx.length CX] 78):=hX▸AY _ _;have Sz:=A3 (hX▸HM.out.below ((AV _ _).alloc (AH _) _));have sX:wr.heap.size<X.heap.size:=by rw [←hX];simp
   rw [hX];obtain⟨q,hq⟩:=A8 wr.heap.size;rw [hq] at kX sX ⊢;have⟨KX,VB⟩:=AQ kX (Eg q3 (Eg q4 q5));clear kX hX c0 c1 c2 d3 d4 d5 dl q3 q4 HM BW hq;obtain⟨iI,Ef,Es,EN,FN⟩:=Dp Oy;obtain⟨wo,rfl⟩:∃wo:World,wo=wr:=⟨_,rfl⟩;go_loopw [8,56] (fun a8 a56 wr=>∃(j:Nat) (val:Nat→Value),j≤x.nx.length∧a56=.int .i64 (j:Int)∧(∀t∈x.nx.take j,0≤t∧t<(G.length:Int))∧wr.heap[q]?=some (.cells #[.int .i64 x.lo,.int .i64 x.hi,.slice NA x.nx.length CX] 78)∧PM V0 wr pg G.length val (J6 G k (x.nx.take j))) (fun _ a56 _=>x.nx.length - (intOf a56).toNat);case atStart=>exact⟨0,val,Ca _,rfl,by simp,KX.out,Sz.out⟩
   case round=>
    clear Sz KX val;obtain⟨j,val,hj,rfl,hin,Q3,Ob⟩:=hrel;have⟨G4,Ds,HM⟩:=Bh hin Q3 Ob;have BW:=A3 (B0.out.trans (Ob.AA.mono A0));have sB2:=Ob.AA.size;have hrg:=Ob.rg;have z0:wr.cell? ⟨w.heap.size,0,none⟩=some (.slice (some ⟨b,off,none⟩) G.length cap):=by rw [Ob.AA.cell (p:=⟨w.heap.size,0,none⟩) s0];exact y0
    have v2:wr.cell? ⟨q,2,none⟩=some (.slice NA x.nx.length CX):=by simp [World.cell?,Q3]
    clear hin Q3 Ob;by_cases hjl:j<x.nx.length
    ·obtain⟨s,nb,Fy,hs,rfl,hnb,x1⟩:=HI.out.at_ BW.out hjl
     have⟨HS,HSM⟩:=AQ (I2 hs) (Bj hs);have dl:decide ((j:Int)<(x.nx.length:Int))=true:=by simpa using hjl
     clear hs;by_cases q6:0≤s;case neg=>
      have d6:decide (s<0)=true:=Ac A0;have HQ:=A3 (D6.out (fun h=>q6 (h.nx s HSM.out).1));clear q6;go_wp2_with fail;go_ret;exact⟨⟨false,rfl,by simp;intro h;obtain⟨z,hz⟩:=h.ok;exact HQ.out z hz⟩,BW.out⟩
     have d6:decide (s<0)=false:=Ad A0;by_cases q7:s<(G.length:Int);case neg=>
      have d7:decide ((G.length:Int)≤s)=true:=Ac A0;have HQ:=A3 (D6.out (fun h=>q7 (h.nx s HSM.out).2));clear q7 q6;go_wp2_with fail;go_ret;exact⟨⟨false,rfl,by simp;intro h;obtain⟨z,hz⟩:=h.ok;exact HQ.out z hz⟩,BW.out⟩
     have d7:decide ((G.length:Int)≤s)=false:=Ad A0;obtain⟨p,rfl⟩:∃p:Nat,s=(p:Int):=⟨s.toNat,by omega⟩;have hp:p<G.length:=by omega
     obtain⟨t1,t2⟩:=HM.out.cells hp;have hop:=HM.out.own p hp;obtain⟨pl,hpl⟩:=A8 (J6 G k (x.nx.take j) p);have asu:pl.length≤30000000:=by
      rw [←hpl];have:=abh G ER.out k A0 (x.nx.take j) p;have h2:(x.nx.take j).length≤2:=by simp;omega
      omega
     rw [hpl] at hop;obtain⟨pA,MA,hvp⟩:∃pA MA,val p=.slice pA pl.length MA:=by
      rcases hop.2 with⟨h,h'⟩|⟨g,cap',cur,h,_⟩
      ·exact⟨_,_,by rw [h,h']⟩
      ·exact⟨_,_,h⟩
     have⟨S9,IM⟩:=AQ hvp hpl;have VH:=A3 (show some pg≠Value.ownBlock (.slice pA pl.length MA) from fun e'=>by
      rw [←hvp] at e'
      exact Fs hop HM.out.C8 AP pg e'.symm rfl)
     have HNq:=A3 (show some q≠Value.ownBlock (.slice pA pl.length MA) from fun e'=>Kn Ds.out hop AP (by rw [hvp];exact e'));have hqp:q≠pg:=fun e'=>Kn Ds.out HM.out.C8 AP (by rw [e'];rfl);rw [hvp] at hop t1;have IL:=A3 hop;have hq3:q<wr.heap.size:=(Bl.1 Ds.out).1;clear hop hvp hpl q6 q7;go_upto_region 17 with (at_builtin;refine Lx _ rfl (.tmp 74) (.tmp 76) 38 rfl V0.heap.size 3 iI (.int .i64 0) 1 8 JJ Ef Es EN FN rfl AP (.slice pA pl.length MA) _ _ rfl (IL.out.alloc _) ⟨wr.heap.size,0,none⟩ 1 1 [.int .i64 (k:Int)] rfl rfl (Du _ _ _) Bd CJ A0 I7 ?_;intro v' W' hown' hgrow _ DY;obtain⟨g',cap',rfl⟩:=Mp hown';have hc1:=hgrow.cell (a:=⟨pg,p,none⟩) (v:=.slice pA pl.length MA) Ga VH.out;have hf1:W'.frozen? ⟨pg,p,none⟩=false:=(Oe (hgrow.block pg CD VH.out)).trans Ga);have hB:=HM.out.app (y:=(k:Int)) hp ((AV wr.heap.size wr).alloc (AH _) (.cells #[.int .i64 (k:Int)] 3)) (by rw [S9.out];exact hgrow) (by rw [IM.out];simpa [Aq] using hown') (by rw [S9.out];exact DY);rw [IM.out] at hB;have hBq:(W'.setCell ⟨pg,p,none⟩ (.slice (some ⟨g',0,none⟩) (pl.length+1) cap')).heap[q]?=some (.cells #[.int .i64 x.lo,.int .i64 x.hi,.slice (some ⟨nb,Fy,none⟩) x.nx.length CX] 78):=by
      rw [Bb _ _ _ _ hqp,hgrow.block q I7 HNq.out,Bv _ _ hq3];exact Ds.out
     have⟨HB,HBQ⟩:=AQ hB hBq;clear hB hBq hc1 hf1 DY hgrow hown' t1 t2 IL VH HNq;go_wp2_with fail;go_roundw;case rel=>
      refine⟨j+1,upd val p (.slice (some ⟨g',0,none⟩) (pl.length+1) cap'),by omega,by go_num,fun t ht=>?_,HBQ.out,?_⟩
      ·rw [HS.out] at ht
       rcases Ch.1 ht with h|h
       ·exact G4.out t h
       ·simp at h;omega
      ·rw [HS.out,atl,IM.out]
       exact HB.out
     case measure=>exact Ai
    ·obtain rfl:j=x.nx.length:=by omega
     have dl:decide ((x.nx.length:Int)<(x.nx.length:Int))=false:=by simp
     rw [Gx] at G4 HM;have hq3:q<wr.heap.size:=(Bl.1 Ds.out).1;by_cases q8:x.nx.length=2
     ·obtain⟨s0',nb,Fy,hs,rfl,hnb,x1⟩:=HI.out.at_ BW.out (j:=0) A0
      obtain⟨s1',nb',auA,hs',hA,au6,x2⟩:=HI.out.at_ BW.out (j:=1) A0;cases hA;have hnw:nb<wr.heap.size:=by omega
      have d8:((x.nx.length:Int)==2)=true:=by simp;omega
      have e0:x.nx.getD 0 0=s0':=by simp [List.getD,hs]
      have e1:x.nx.getD 1 0=s1':=by simp [List.getD,hs']
      have i0:(0:Int)<(x.nx.length:Int):=by omega
      have i1:(1:Int)<(x.nx.length:Int):=by omega
      rw [Zg] at x1;by_cases q9:s0'=s1'
      ·have d9:(s0'==s1')=true:=by simp [q9]
       have HQ:=A3 (D6.out (fun h=>h.ne ⟨q8,by rw [e0,e1,q9]⟩));clear q9 e0 e1 q8 hs hs' q5;go_upto_region 18 with fail;refine C7 A4 A4 ?_;repeat (go_big_quiet_step (fail))
       refine BD ?_;rintro _ ⟨y,rfl⟩;go_wp2_with fail;go_ret;exact⟨⟨false,rfl,by simp;intro h;obtain⟨z,hz⟩:=h.ok;exact HQ.out z hz⟩,Ext.below BW.out BW.out.size y⟩
      ·have d9:(s0'==s1')=false:=by simp [q9]
       have iu:=A3 (show Ra G.length e x from⟨VB.out.1,VB.out.2.1,VB.out.2.2,G4.out,fun h=>q9 (by rw [←e0,← e1];exact h.2)⟩);clear q9 e0 e1 q8 hs hs' q5;go_upto_region 18 with fail;refine C7 A4 A4 ?_;repeat (go_big_quiet_step (fail))
       refine BD ?_;rintro _ ⟨y,rfl⟩;go_wp2_with fail;go_roundw;case rel=>exact⟨k+1,x.hi,val,by omega,by go_num,rfl,by rw [I2 HX.out];exact Ea.out.snoc iu.out,by rw [←r9 G k x HX.out];exact HM.out.below y.h⟩
       case measure=>exact Ai
     ·have d8:((x.nx.length:Int)==2)=false:=Me.2 A0
      have iu:=A3 (show Ra G.length e x from⟨VB.out.1,VB.out.2.1,VB.out.2.2,G4.out,fun h=>q8 h.1⟩);clear q8 q5;go_upto_region 18 with fail;refine C7 A4 A4 ?_;repeat (go_big_quiet_step (fail))
      refine BD ?_;rintro _ ⟨y,rfl⟩;go_wp2_with fail;go_roundw;case rel=>exact⟨k+1,x.hi,val,by omega,by go_num,rfl,by rw [I2 HX.out];exact Ea.out.snoc iu.out,by rw [←r9 G k x HX.out];exact HM.out.below y.h⟩
      case measure=>exact Ai
  ·obtain rfl:k=G.length:=by omega
   have dl:decide ((G.length:Int)<(G.length:Int))=false:=by simp
   rw [Gx] at Ea;have z1:wr.cell? ⟨w.heap.size,1,none⟩=some (.slice PA P.length B7):=by rw [HM.out.AA.cell (p:=⟨w.heap.size,1,none⟩) s0];exact y1
   have HEF:=A3 (xU _ _ _ P wr HM.out.lls (Tw.out.below BW.out));go_wp2_with (go_at_call 64;refine HEF.out.mono ?_;rintro e w' ⟨rfl,hb5⟩);go_ret;refine⟨⟨_,rfl,?_⟩,BW.out.trans (hb5.mono (by have:=BW.out.size;omega))⟩;rw [E4];constructor
   ·intro h
    exact⟨fun e=>HQ1.out NF,HQ2.out,⟨_,Ea.out⟩,h⟩
   ·intro h
    exact h.prev
structure ug (w:World) (v:Value) (l:List Ins):Prop where
 at_:∃A cap,v=.slice A l.length cap∧l.length≤cap∧cap≤maxLen∧(0<l.length→∃b off,A=some ⟨b,off,none⟩∧b<w.heap.size∧∀i x,l[i]?=some x→
  w.cell? ⟨b,off+i*5,none⟩=some (.int .u8 x.op)∧w.cell? ⟨b,off+i*5+1,none⟩=some (.int .i64 x.a)∧w.cell? ⟨b,off+i*5+2,none⟩=some (.int .i64 x.b)∧w.cell? ⟨b,off+i*5+3,none⟩=some (.int .i64 x.c)∧w.cell? ⟨b,off+i*5+4,none⟩=some (.int .i64 x.AD))
theorem zS:(Tryz.prog.info? 70).map (fun i=>(i.zero,i.size,i.bytes))=some (some (.int .u32 0),1,4):=by kernel_rfl
abbrev SE (l:List Int):List Value:=l.map (Value.int .u32)
structure IG (V wr:World) (ib:Nat) (cv ev:Value) (ws:List Int):Prop where
 ib1:ib<V.heap.size
 os:wr.os=V.os
 tape:wr.tape=V.tape
 output:wr.output=V.output
 sz:V.heap.size≤wr.heap.size
 blk:∀k,k<V.heap.size→k≠ib→wr.heap[k]?=V.heap[k]?
 im:wr.heap[ib]?=some (.cells #[cv,ev,.int .i64 0,.int .i64 0] 25 (0,0))
 row:wr.ownsRow V.heap.size 70 1 cv ws.length (SE ws)
theorem IG.below {V wr wr':World} {ib:Nat} {cv ev:Value} {ws:List Int} (h:IG V wr ib cv ev ws) (hb:Below wr.heap.size wr wr'):IG V wr' ib cv ev ws:=
 ⟨h.ib1,hb.os.trans h.os,hb.tape.trans h.tape,hb.output.trans h.output,FK h.sz hb.size,fun k h1 h2=>(hb.block k ZL).trans (h.blk k h1 h2),(hb.block _ (by have:=h.sz;have:=h.ib1;omega)).trans h.im,CS h.row hb⟩
theorem IG.base {V wr w:World} {ib:Nat} {cv ev:Value} {ws:List Int} (h:IG V wr ib cv ev ws) (hb:Below w.heap.size w V) (hi:w.heap.size≤ib):Below w.heap.size w wr:=
 ⟨h.os.trans hb.os,h.tape.trans hb.tape,h.output.trans hb.output,FK hb.size h.sz,fun k hk=>(h.blk k (by have:=hb.size;omega) A0).trans (hb.block k hk)⟩
theorem IG.app {V wr w2 W':World} {ib:Nat} {cv ev v':Value} {ws:List Int} {x:Int} (h:IG V wr ib cv ev ws) (hb:Below wr.heap.size wr w2) (hg:w2.grownBy W' cv.ownBlock) (hown:W'.ownsRow V.heap.size 70 1 v' (ws.length+1) (SE (ws++[x]))):IG V (W'.setCell ⟨ib,0,none⟩ v') ib v' ev (ws++[x]):=by
 have G:=grown_of hb hg;have i1:=h.ib1;have hsz:=h.sz;have Iz:=G.size;have rl:∀q,cv.ownBlock=some q→V.heap.size≤q:=fun q hq=>(h.row.lt q hq).1;have sm:∀k,k<V.heap.size→W'.heap[k]?=wr.heap[k]?:=fun k hk=>G.block k A0 (fun e=>by have:=rl k e.symm;omega);refine⟨i1,G.os.trans h.os,G.tape.trans h.tape,G.output.trans h.output,by simp;omega,fun k h1 h2=>?_,?_,?_⟩
 ·rw [Bb _ _ _ _ h2];exact (sm k h1).trans (h.blk k h1 h2)
 ·rw [Cl W' ib 0 _ _ v' ((sm ib i1).trans h.im)];rfl
 ·rw [show (ws++[x]).length=ws.length+1 by simp]
  exact PW hown (fun e=>by have:=(hown.lt ib e).1;omega) _
theorem aq2 {w:World} {B:Nat} {v:Value} {ws:List Int} (h:w.ownsRow B 70 1 v ws.length (SE ws)) (hl:ws.length≤1000000) (hw:∀x∈ws,0≤x∧x<4294967296):Words w v ws.length (fun i=>ws.getD i 0):=by
 refine⟨hl,fun i hi=>?_,?_⟩
 ·have:ws.getD i 0=ws[i]:=by simp [List.getD,Ab hi]
  rw [this];exact hw _ (CQ hi)
 ·rcases h.2 with⟨rfl,h0⟩|⟨g,cap,cur,rfl,_,hg,h1,h2,_,_⟩
  ·rw [h0]
   exact⟨none,0,rfl,AH _,by unfold maxLen;omega,fun h=>by omega⟩
  ·refine⟨_,cap,rfl,h1,h2,fun _=>⟨g,0,rfl,(Bl.1 hg).1,fun i hi=>?_⟩⟩
   rw [Er,h.cellAt i A0];simp [SE,List.getD,Ab hi]
theorem atb (c:Int→Ins) (st:Int) {D D':List Int} (h:∀x,x∈D↔x∈D') (x:Int):Ei c st D x=Ei c st D' x:=by
 have:Ei c st D x=true↔Ei c st D' x=true:=by
  rw [SC,SC];unfold Pm;constructor
  ·rintro (e|⟨a,ha,hm⟩)
   ·exact .inl e
   ·exact .inr ⟨a,(h a).1 ha,hm⟩
  ·rintro (e|⟨a,ha,hm⟩)
   ·exact .inl e
   ·exact .inr ⟨a,(h a).2 ha,hm⟩
 cases h1:Ei c st D x<;>cases h2:Ei c st D' x<;>simp_all
theorem l7 (c:Int→Ins) (st:Int) {D D':List Int} (h:∀x,x∈D↔x∈D'):∀m,blk c st D m=blk c st D' m
 | 0=>rfl
 | m+1=>by
  unfold blk;rw [l7 c st h m,atb c st h];simp only [h]
theorem mF {α:Type} {f:α→List Value} (hf:∀x,(f x).length=6):∀(L:List α) (k j:Nat) (x:α),L[k]?=some x→j<6→(L.flatMap f)[k*6+j]?=(f x)[j]?
 | y :: L,0,j,x,h,hj=>by
  simp at h;subst h;rw [Jy,Tl,Er,Kr (by rw [hf];exact hj)]
 | y :: L,k+1,j,x,h,hj=>by
  have h':L[k]?=some x:=by simpa using h
  rw [Jy,Jg (by rw [hf];omega),hf,show (k+1)*6+j - 6=k*6+j by omega];exact mF hf L k j x h' hj
theorem aaV {W:World} (h:laidMet Tryz.prog [("ontime/isa.formats", Rows.laid_ontime_isa_formats)] W):CO W:=by
 have hv:=aq5 h;have hg:Tryz.prog.globalNamed "ontime/isa.formats" = some 0:=by kernel_rfl
 have hc:∀k,W.cell? ⟨0,k,none⟩=Q0.toArray[k]?:=fun k=>World.var?_cell hg hv k;refine⟨?_,fun k hk j v hv2=>?_⟩
 ·have h0:W.cell? ⟨0,0,none⟩=some (.string ⟨#[110,111,112]⟩):=by rw [hc 0];kernel_rfl
  exact aB h0
 ·rw [hc]
  have hj:j<6:=by
   have:=(Bc.1 hv2).1;simpa [Fm.cells] using this
  have hf:QL[k]?=some (fm k):=by
   unfold fm;have:k<QL.length:=hk;simp [List.getD,Ab this]
  have:=mF (f:=Fm.cells) (fun x=>rfl) QL k j (fm k) hf hj;simp only [YF];unfold Q0;rw [this];exact hv2
theorem sF {α:Type} {P:Nat→α→Prop} (len:Nat) (h:∀i,i<len→∃x,P i x):∃l:List α,l.length=len∧∀i x,l[i]?=some x→P i x:=by
 induction len with
 | zero=>exact⟨[],rfl,fun i x hx=>by simp at hx⟩
 | succ n ih=>
  obtain⟨l,h1,h2⟩:=ih (fun i hi=>h i A0);obtain⟨x,hx⟩:=h n A0;refine⟨l++[x],by simp [h1],fun i y hy=>?_⟩;by_cases hi:i<l.length
  ·rw [Kr hi] at hy
   exact h2 i y hy
  ·rw [Jg A0] at hy
   have:i - l.length=0:=by
    rcases UC (i - l.length) with e|e
    ·exact e
    ·rw [Dy CD] at hy;cases hy
   rw [this] at hy;simp at hy;subst hy;rw [show i=n by omega];exact hx
section
variable {H:Type} {enc:TypeId×Value→H} {P:Program} {w:World} {base:Nat} {spare:Nat→Bool} {held:Bool}
theorem mj {t e:TypeId} {fuel:Nat} {cs0:List Value} {y0:DataW H×List MemPlace} (ht:P.underlying t=some (.slice e)) (c:Nat) (hC:P.cellsOf e=c) (hc:0<c)
  (hf:DataW.trod enc P w base spare held fuel t cs0=some y0) :
  ∃v len,cs0=[v]∧Qd w w.heap.size v len c (fun i cs=>∃n y,DataW.trod enc P w base spare held n e cs=some y):=by
 rcases Go.Deep.open_slice ht hf with⟨hcs,_⟩|⟨a,len,cap,m,n,D,Pl,hcs,_,hl,hm,hmm,_,hi⟩
 ·exact⟨.slice none 0 0,0,hcs,none,0,rfl,AH _,by unfold maxLen;omega,fun h=>absurd h A0⟩
 ·refine⟨.slice (some a) len cap,len,hcs,_,cap,rfl,hl,hm,fun h0=>?_⟩
  have hlm:len≤m:=by rw [hmm];split<;>omega
  have cell:∀i,i<len→∃cs,(∃n y,DataW.trod enc P w base spare held n e cs=some y)∧cs.length=c∧∀j,j<c→w.cell? ((a.add (i*c)).add j)=cs[j]?:=by
   intro i hi';obtain⟨cs,hcs,htr⟩:=hi i A0;rw [hC] at hcs;obtain⟨_,hl',hat⟩:=World.cells?_some hcs;exact⟨cs,⟨n,_,htr⟩,hl',hat⟩
  have hspot:a.spot=none∧a.block<w.heap.size:=by
   obtain⟨cs,_,hl',hat⟩:=cell 0 h0;have h1:=hat 0 hc;rw [Ab A0] at h1;have e0:((a.add (0*c)).add 0)=a:=by simp [Addr.add]
   rw [e0] at h1;exact⟨World.cell?_spot h1,aB h1⟩
  obtain⟨b,off,spot⟩:=a;simp only at hspot;obtain⟨rfl,hb⟩:=hspot;refine⟨b,off,rfl,hb,fun i hi'=>?_⟩;obtain⟨cs,r,hl',hat⟩:=cell i hi';refine⟨cs,r,hl',fun j hj=>?_⟩;rw [←hat j hj];congr 1
  unfold Addr.add;split<;>split<;>simp<;>omega
end
section
variable {H:Type} {enc:TypeId×Value→H} {w:World} {base:Nat} {spare:Nat→Bool} {held:Bool}
theorem rN:Tryz.prog.cellsOf 3=1:=by kernel_rfl
end
def Sk (pc:Int) (x:AU):Prop:=x.lo≤pc∧pc<x.hi
instance (pc:Int) (x:AU):Decidable (Sk pc x):=by unfold Sk;infer_instance
def Og (G:List AU) (pc:Int):Option Nat:=G.findIdx? (fun x=>decide (Sk pc x))
theorem ep {G:List AU} {pc:Int} {j:Nat} {x:AU} (hx:G[j]?=some x) (hin:Sk pc x) (hno:∀y∈G.take j,¬Sk pc y):Og G pc=some j:=by
 unfold Og;obtain⟨hj,e⟩:=Bc.1 hx;rw [yA];refine⟨hj,by rw [e];simpa using hin,fun i hi=>?_⟩;have:G[i]∈G.take j:=by
  rw [LH];exact⟨i,by rw [XP,A9 hi,Ab A0]⟩
 simpa using hno _ this
theorem aev {G:List AU} {pc:Int} (hno:∀y∈G,¬Sk pc y):Og G pc=none:=by
 unfold Og;rw [List.findIdx?_eq_none_iff];intro x hx;simpa using hno x hx
theorem afF (bv pv:Value) (G:List AU) (pc:Int) (w:World) (HG:E7 w bv G) :
  Calls Tryz.prog 25 #[.agg #[bv,pv],.int .i64 pc] w fun e w'=>e=.returned (.tuple #[.int .i64 (((Og G pc).getD 0:Nat):Int),.bool (Og G pc).isSome])∧Below w.heap.size w w':=by
 obtain⟨A,cap,rfl,hc1,hc2⟩:=HG.slice;have NM:=A3 HG;clear HG;obtain⟨V0,Bq⟩:=A8 (w.alloc (.cells #[.slice A G.length cap,pv] 31));have b0:Below w.heap.size w V0:=Bq▸(AV _ _).alloc (AH _) _;have s0:w.heap.size<V0.heap.size:=by rw [←Bq];simp
 have k0:V0.heap[w.heap.size]?=some (.cells #[.slice A G.length cap,pv] 31):=by rw [←Bq];exact AY _ _
 have y0:V0.cell? ⟨w.heap.size,0,none⟩=some (.slice A G.length cap):=by simp [World.cell?,k0]
 have B0:=A3 b0;clear k0 b0;go_enter Tryz.func25,Tryz.ntmps25;go_upto_region 2 with fail;clear Bq;go_loopw [6,7,11] (fun a6 a7 a11 wr=>∃j:Nat,j≤G.length∧a11=.int .i64 (j:Int)∧(∀x∈G.take j,¬Sk pc x)∧Below V0.heap.size V0 wr) (fun _ _ a11 _=>G.length - (intOf a11).toNat);case atStart=>exact⟨0,Ca _,rfl,by simp,AV _ _⟩
 case round=>
  obtain⟨j,hj,rfl,hno,hb⟩:=hrel;have⟨D6,HB⟩:=AQ hno hb;have BW:=A3 (B0.out.trans (hb.mono A0));have s1:=hb.size;clear hno hb;by_cases hlt:j<G.length
  ·obtain⟨x,nv,b,off,hx,rfl,hbl,c0,c1,c2,hI⟩:=NM.out.at_ BW.out hlt
   obtain⟨NA,CX,rfl,hn1,hn2⟩:=hI.slice;have HX:=A3 hx;have dl:decide ((j:Int)<(G.length:Int))=true:=Ac A0;clear hx hI;by_cases q:Sk pc x
   ·have d1:decide (x.lo≤pc)=true:=Ac q.1
    have d2:decide (pc<x.hi)=true:=Ac q.2;have HQ:=A3 (ep HX.out q D6.out);clear q;go_wp2_with fail;go_ret2;refine⟨?_,BW.out.alloc A0 _⟩;rw [HQ.out];rfl
   ·have HQ:=A3 q
    by_cases q1:x.lo≤pc
    ·have d1:decide (x.lo≤pc)=true:=Ac q1
     have d2:decide (pc<x.hi)=false:=Ad (fun h=>q ⟨q1,h⟩);clear q q1;go_wp2_with fail;go_roundw;case rel=>
      refine⟨j+1,by omega,by go_num,fun t ht=>?_,HB.out.alloc A0 _⟩;rw [I2 HX.out] at ht;rcases Ch.1 ht with h|h
      ·exact D6.out t h
      ·simp at h;rw [h];exact HQ.out
     case measure=>exact Ai
    ·have d1:decide (x.lo≤pc)=false:=Ad q1
     clear q q1;go_wp2_with fail;go_roundw;case rel=>
      refine⟨j+1,by omega,by go_num,fun t ht=>?_,HB.out.alloc A0 _⟩;rw [I2 HX.out] at ht;rcases Ch.1 ht with h|h
      ·exact D6.out t h
      ·simp at h;rw [h];exact HQ.out
     case measure=>exact Ai
  ·obtain rfl:j=G.length:=by omega
   have dl:decide ((G.length:Int)<(G.length:Int))=false:=by simp
   rw [Gx] at D6;have HQ:=A3 (aev D6.out);go_wp2_with fail;go_ret2;refine⟨?_,BW.out⟩;rw [HQ.out];rfl
def CP (G:List AU) (k:Nat) (l:List Int):List (Int×Int):=((List.range k).flatMap fun b=>((G.getD b ⟨0,0,[]⟩).nx).map fun t=>((b:Int),t))++l.map fun t=>((k:Int),t)
theorem asR (G:List AU) (k:Nat) (l:List Int) (t:Int):CP G k (l++[t])=CP G k l++[((k:Int),t)]:=by simp [CP]
theorem atA {G:List AU} {k:Nat} {x:AU} (hx:G[k]?=some x):CP G k x.nx=CP G (k+1) []:=by
 unfold CP;have e:G.getD k ⟨0,0,[]⟩=x:=by simp [List.getD,hx]
 rw [JT,Qu];simp only [Jy,eB,Jz,Xx,e]
theorem mo (G:List AU) (hn:∀x∈G,x.nx.length≤5000) (k:Nat) (hk:k≤G.length) (l:List Int):(CP G k l).length≤5000*k+l.length:=by
 have c2:∀k,k≤G.length→((List.range k).flatMap fun b=>((G.getD b ⟨0,0,[]⟩).nx).map fun t=>((b:Int),t)).length≤5000*k:=by
  intro k;induction k with
  | zero=>simp
  | succ k ih=>
   intro hk;have:=ih A0;rw [JT,Qu,G5];have h2:(G.getD k ⟨0,0,[]⟩).nx.length≤5000:=by
    have hk':k<G.length:=by omega
    rw [show G.getD k ⟨0,0,[]⟩=G[k] by simp [List.getD,Ab hk']];exact hn _ (CQ hk')
   simp only [Jy,eB,Jz,FQ];omega
 have:=c2 k hk;unfold CP;rw [G5,FQ];omega
def JE (L:List (Int×Int)):List Value:=L.flatMap fun p=>[.int .i64 p.1,.int .i64 p.2]
theorem gN (L:List (Int×Int)) (a b:Int):JE (L++[(a,b)])=JE L++[.int .i64 a,.int .i64 b]:=by simp [JE]
theorem kM:∀(L:List (Int×Int)) (i j:Nat) (p:Int×Int),L[i]?=some p→j<2→(JE L)[i*2+j]?=[Value.int .i64 p.1,.int .i64 p.2][j]?
 | y :: L,0,j,p,h,hj=>by
  simp at h;subst h;have e:JE (y :: L)=[.int .i64 y.1,.int .i64 y.2]++JE L:=by simp [JE]
  rw [e,Tl,Er,Kr (by simpa using hj)]
 | y :: L,i+1,j,p,h,hj=>by
  have h':L[i]?=some p:=by simpa using h
  have e:JE (y :: L)=[.int .i64 y.1,.int .i64 y.2]++JE L:=by simp [JE]
  rw [e,Jg CD,show (i+1)*2+j - [Value.int .i64 y.1,.int .i64 y.2].length=i*2+j by simp;omega];exact kM L i j p h' hj
def UJ (w:World) (v:Value) (L:List (Int×Int)):Prop:=
 ∃A cap,v=.slice A L.length cap∧L.length≤cap∧cap≤2 ^ 63 - 1∧(0<L.length→∃b off,A=some ⟨b,off,none⟩∧b<w.heap.size∧∀i p,L[i]?=some p→w.cell? ⟨b,off+i*2,none⟩=some (.int .i64 p.1)∧w.cell? ⟨b,off+i*2+1,none⟩=some (.int .i64 p.2))
theorem UJ.below {w w':World} {v:Value} {L:List (Int×Int)} (h:UJ w v L) (hb:Below w.heap.size w w'):UJ w' v L:=by
 obtain⟨A,cap,h1,h2,h3,h4⟩:=h;refine⟨A,cap,h1,h2,h3,fun h0=>?_⟩;obtain⟨b,off,ha,hlt,hc⟩:=h4 h0;refine⟨b,off,ha,by have:=hb.size;omega,fun i p hp=>?_⟩;obtain⟨c0,c1⟩:=hc i p hp;exact⟨(hb.cell (p:=⟨b,_,none⟩) hlt).trans c0,(hb.cell (p:=⟨b,_,none⟩) hlt).trans c1⟩
theorem o8 {w:World} {B:Nat} {e:TypeId} {v:Value} {L:List (Int×Int)} (h:w.ownsRow B e 2 v L.length (JE L)):UJ w v L:=by
 rcases h.2 with⟨rfl,h0⟩|⟨g,cap',cur,rfl,h1,h2,h3,h4,_,_⟩
 ·exact⟨none,0,by rw [h0],by omega,by omega,fun h=>by omega⟩
 ·unfold maxLen at h4
  refine⟨_,cap',rfl,h3,h4,fun _=>⟨g,0,rfl,(Bl.1 h2).1,fun i p hp=>?_⟩⟩;have hi:=(Bc.1 hp).1;refine⟨?_,?_⟩
  ·rw [Er,h.cellAt _ A0,show i*2=i*2+0 from rfl,kM L i 0 p hp A0];rfl
  ·rw [Er,h.cellAt _ A0,kM L i 1 p hp A0];rfl
theorem gB (w:World) (a b:Value) (t:TypeId):∀j u,[a,b][j]?=some u→(w.alloc (.cells #[a,b] t)).cell? ((⟨w.heap.size,0,none⟩:Addr).add j)=some u:=by
 intro j u h;have e:(⟨w.heap.size,0,none⟩:Addr).add j=⟨w.heap.size,j,none⟩:=by cases j<;>simp [Addr.add]
 rw [e];unfold World.cell?;rw [AY];simpa using h
theorem infoP:(Tryz.prog.info? 109).map (fun i=>(i.zero,i.size,i.bytes))=some (some (.agg #[.int .i64 0,.int .i64 0]),2,16):=by kernel_rfl
theorem apC (bv pv:Value) (G:List AU) (w:World) (HG:E7 w bv G) (hn:G.length≤5000) (BK:∀x∈G,x.nx.length≤5000) :
  Calls Tryz.prog 38 #[.agg #[bv,pv]] w fun e w'=>(∃v,e=.returned v∧UJ w' v (CP G G.length []))∧Below w.heap.size w w':=by
 obtain⟨A,cap,rfl,hc1,hc2⟩:=HG.slice;have⟨NM,ER⟩:=AQ HG BK;clear HG BK;obtain⟨V0,Bq⟩:=A8 (w.alloc (.cells #[.slice A G.length cap,pv] 31));have b0:Below w.heap.size w V0:=Bq▸(AV _ _).alloc (AH _) _;have s0:w.heap.size<V0.heap.size:=by rw [←Bq];simp
 have k0:V0.heap[w.heap.size]?=some (.cells #[.slice A G.length cap,pv] 31):=by rw [←Bq];exact AY _ _
 have y0:V0.cell? ⟨w.heap.size,0,none⟩=some (.slice A G.length cap):=by simp [World.cell?,k0]
 have B0:=A3 b0;clear k0 b0;obtain⟨iP,hiP,hP0,hP1,hP2⟩:=Dp infoP;go_enter Tryz.func38,Tryz.ntmps38;go_upto_region 3 with fail;clear Bq;go_loopw [3,4,5,7,11] (fun a3 a4 a5 a7 a11 wr=>∃k:Nat,k≤G.length∧a11=.int .i64 (k:Int)∧wr.ownsRow V0.heap.size 109 2 a3 (CP G k []).length (JE (CP G k []))∧Below V0.heap.size V0 wr) (fun _ _ _ _ a11 _=>G.length - (intOf a11).toNat);case atStart=>exact⟨0,Ca _,rfl,NK _ _ _ _,AV _ _⟩
 case round=>
  obtain⟨k,hk,rfl,hown,hb⟩:=hrel;have⟨HO,HB⟩:=AQ hown hb;have BW:=A3 (B0.out.trans (hb.mono A0));have s1:=hb.size;clear hown hb;by_cases hlt:k<G.length
  ·obtain⟨x,nx,b,off,hx,rfl,hbl,c0,c1,c2,hIx⟩:=NM.out.at_ BW.out hlt
   obtain⟨NA,CX,rfl,hn1,hn2⟩:=hIx.slice;have HX:=A3 (atA hx);have hxl:=ER.out x (Bj hx);have HIX:=A3 hIx;have dl:decide ((k:Int)<(G.length:Int))=true:=Ac A0;clear hx hIx;obtain⟨X,hX⟩:=A8 (wr.alloc (.cells #[.int .i64 x.lo,.int .i64 x.hi,.slice NA x.nx.length CX] 78));have bX:Below wr.heap.size wr X:=hX▸(AV _ _).alloc (AH _) _;have kX:X.heap[wr.heap.size]?=some (.cells #[.int .i64 x.lo,.int .i64 x.hi,.slice NA x.nx.length CX] 78):=hX▸AY _ _;have o2:X.cell? ⟨wr.heap.size,2,none⟩=some (.slice NA x.nx.length CX):=by simp [World.cell?,kX]
   have⟨HOX,Ds⟩:=AQ (CS HO.out bX) (HB.out.trans (bX.mono s1));clear kX bX;go_upto_region 6 with fail;clear hX c0 c1 c2 o2 HO HB BW;obtain⟨wo,rfl⟩:∃wo:World,wo=wr:=⟨_,rfl⟩;go_loopw [3,7,19] (fun a3 a7 a19 wr=>∃j:Nat,j≤x.nx.length∧a19=.int .i64 (j:Int)∧wr.ownsRow V0.heap.size 109 2 a3 (CP G k (x.nx.take j)).length (JE (CP G k (x.nx.take j)))∧Below V0.heap.size V0 wr) (fun _ _ a19 _=>x.nx.length - (intOf a19).toNat);case atStart=>exact⟨0,Ca _,rfl,HOX.out,Ds.out⟩
   case round=>
    obtain⟨j,hj,rfl,hown,hb⟩:=hrel;have⟨HO,HB⟩:=AQ hown hb;have BW:=A3 (B0.out.trans (hb.mono A0));have s2:=hb.size;clear hown hb HOX Ds dl;by_cases hjl:j<x.nx.length
    ·obtain⟨s,nb,Fy,hs,rfl,hnb,x1⟩:=HIX.out.at_ BW.out hjl
     have HS:=A3 (I2 hs);have dl:decide ((j:Int)<(x.nx.length:Int))=true:=Ac A0;have hel:=mo G ER.out k A0 (x.nx.take j);have auD:(CP G k (x.nx.take j)).length≤30000000:=by
      have:(x.nx.take j).length≤5000:=by simp;omega
      omega
     clear hs hel;go_wp2_with (at_builtin;refine Lx _ rfl (.tmp 23) (.tmp 27) 57 rfl V0.heap.size 109 iP _ 2 16 nH hiP hP0 hP1 hP2 rfl AP u3 _ _ rfl (HO.out.alloc _) ⟨wr.heap.size,0,none⟩ 1 1 [.int .i64 (k:Int),.int .i64 s] rfl rfl (gB _ _ _ _) Bd CJ A0 I7 ?_;intro v' W' hown' hgrow _ DY);have HN:=A3 hown';have VY:=A3 ((HB.out.alloc s2 _).grown hgrow I7 (fun k hk=>(HO.out.lt k hk).1));go_roundw;case rel=>
      refine⟨j+1,by omega,by go_num,?_,VY.out⟩;rw [HS.out,asR,gN,G5];exact HN.out
     case measure=>exact Ai
    ·obtain rfl:j=x.nx.length:=by omega
     have dl:decide ((x.nx.length:Int)<(x.nx.length:Int))=false:=by simp
     rw [Gx] at HO;go_wp2_with fail;go_roundw;case rel=>
      refine⟨k+1,by omega,by go_num,?_,HB.out⟩;rw [←HX.out];exact HO.out
     case measure=>exact Ai
  ·obtain rfl:k=G.length:=by omega
   have dl:decide ((G.length:Int)<(G.length:Int))=false:=by simp
   go_wp2_with fail;go_ret;exact⟨⟨u3,rfl,o8 HO.out⟩,BW.out⟩
structure Pj (w:World) (v:Value) (n:Nat) (cd:Nat→Int):Prop where
 wd:∀i,i<n→0≤cd i∧cd i<4294967296
 at_:∃A cap,v=.slice A n cap∧n≤cap∧cap≤maxLen∧(0<n→∃b off,A=some ⟨b,off,none⟩∧b<w.heap.size∧∀i,i<n→w.cell? ⟨b,off+i,none⟩=some (.int .u32 (cd i)))
theorem Pj.words {w:World} {v:Value} {n:Nat} {cd:Nat→Int} (h:Pj w v n cd) (hn:n≤1000000):Words w v n cd:=⟨hn,h.wd,h.at_⟩
theorem arn {cs:List Value} (h:cs.length=4):∃c0 c1 c2 c3,cs=[c0,c1,c2,c3]:=by
 match cs,h with
 | [c0,c1,c2,c3],_=>exact⟨c0,c1,c2,c3,rfl⟩
theorem array4 {α:Type} {cs:Array α} (h:cs.size=4):∃c0 c1 c2 c3,cs=#[c0,c1,c2,c3]:=by
 obtain⟨l⟩:=cs;match l,h with
 | [c0,c1,c2,c3],_=>exact⟨c0,c1,c2,c3,rfl⟩
theorem u32_in {p:Int} (h:(Lit.int .u32 p).wf=true):0≤p∧p<4294967296:=by
 simp [Lit.wf] at h;have e1:IntKind.u32.min=0:=by decide
 have e2:IntKind.u32.max=4294967295:=by decide
 omega
theorem aap:Tryz.prog.cellsOf 9=1:=by kernel_rfl
theorem arK:Tryz.prog.cellsOf 22=1:=by kernel_rfl
theorem asH:Tryz.prog.cellsOf 23=1:=by kernel_rfl
theorem aqs:Tryz.prog.cellsOf 25=4:=by kernel_rfl
theorem trod_struct4 {H:Type} {enc:TypeId×Value→H} {P:Program} {w:World} {base:Nat} {spare:Nat→Bool} {held:Bool} {t:TypeId} {f0 f1 f2 f3:Field} {fuel:Nat} {cs:List Value} {x:DataW H×List MemPlace} (ht:P.underlying t=some (.struct #[f0,f1,f2,f3])) (h:DataW.trod enc P w base spare held fuel t cs=some x) :
  ∃y0 y1 y2 y3 n,DataW.trod enc P w base spare held n f0.type ((cs.drop f0.offset).take (P.cellsOf f0.type))=some y0∧DataW.trod enc P w base spare held n f1.type ((cs.drop f1.offset).take (P.cellsOf f1.type))=some y1∧
   DataW.trod enc P w base spare held n f2.type ((cs.drop f2.offset).take (P.cellsOf f2.type))=some y2∧DataW.trod enc P w base spare held n f3.type ((cs.drop f3.offset).take (P.cellsOf f3.type))=some y3:=by
 obtain⟨xs,n,_,rfl,hl,hlen,hf⟩:=DataW.trod_struct ht h;match xs,hlen with
 | [y0,y1,y2,y3],_=>exact⟨y0,y1,y2,y3,n,by simpa using hf 0 f0 rfl,by simpa using hf 1 f1 rfl,by simpa using hf 2 f2 rfl,by simpa using hf 3 f3 rfl⟩
section
variable {H:Type} {enc:TypeId×Value→H} {w:World} {base:Nat} {spare:Nat→Bool} {held:Bool}
theorem agL {fuel:Nat} {cs:List Value} {y:DataW H×List MemPlace} (h:DataW.trod enc Tryz.prog w base spare held fuel 22 cs=some y):∃v n cd,cs=[v]∧Pj w v n cd:=by
 obtain⟨v,len,rfl,A,cap,rfl,h1,h2,hc⟩:=mj Tryz.underlying22 1 A4 A0 h;obtain⟨l,hl,hp⟩:=sF (P:=fun i (x:Int)=>(0≤x∧x<4294967296)∧(0<len→∃b off,A=some ⟨b,off,none⟩∧b<w.heap.size∧w.cell? ⟨b,off+i,none⟩=some (.int .u32 x))) len (fun i hi=>by
  obtain⟨b,off,rfl,hb,hx⟩:=hc A0;obtain⟨cs,⟨n,y,htr⟩,_,hj⟩:=hx i hi;obtain⟨z,rfl,_,hw⟩:=Qy tE htr;have:=hj 0 A0
  exact⟨z,u32_in hw,fun _=>⟨b,off,rfl,hb,by simpa using this⟩⟩)
 subst hl;refine⟨_,l.length,fun i=>l.getD i 0,rfl,fun i hi=>?_,A,cap,rfl,h1,h2,fun h0=>?_⟩
 ·have e:l.getD i 0=l[i]:=by simp [List.getD,Ab hi]
  show 0≤l.getD i 0∧l.getD i 0<4294967296;rw [e];exact (hp i _ (Ab hi)).1
 ·obtain⟨b,off,rfl,hb,hx⟩:=hc h0
  refine⟨b,off,rfl,hb,fun i hi=>?_⟩;obtain⟨_,h4⟩:=hp i _ (Ab hi);obtain⟨b',off',e,_,h5⟩:=h4 h0;cases e;rw [h5];simp [List.getD,Ab hi]
theorem asw {fuel:Nat} {cs:List Value} {y:DataW H×List MemPlace} (h:DataW.trod enc Tryz.prog w base spare held fuel 23 cs=some y):∃v l,cs=[v]∧IZ w v l:=by
 obtain⟨v,len,rfl,A,cap,rfl,h1,h2,hc⟩:=mj Tryz.underlying23 4 A4 A0 h;obtain⟨l,hl,hp⟩:=sF (P:=fun i (x:Bt)=>x.nm.size≤maxLen∧(0<len→∃b off,A=some ⟨b,off,none⟩∧b<w.heap.size∧w.cell? ⟨b,off+i*4,none⟩=some (.string x.nm)∧w.cell? ⟨b,off+i*4+1,none⟩=some (.int .i64 x.st)∧w.cell? ⟨b,off+i*4+2,none⟩=some (.int .i64 x.en)∧w.cell? ⟨b,off+i*4+3,none⟩=some (.int .i64 x.da))) len (fun i hi=>by
  obtain⟨b,off,rfl,hb,hx⟩:=hc A0;obtain⟨cs,⟨n,y,htr⟩,hl,hj⟩:=hx i hi;obtain⟨y0,y1,y2,y3,n',g0,g1,g2,g3⟩:=trod_struct4 Tryz.underlying75 htr;obtain⟨c0,c1,c2,c3,rfl⟩:=arn hl;simp only [rN,aap,List.drop_zero,G0,Fp,List.take_zero] at g0 g1 g2 g3;obtain⟨z0,e0,_,hz0⟩:=jl XE g0;obtain⟨z1,e1,_,_⟩:=Qy Db g1;obtain⟨z2,e2,_,_⟩:=Qy Db g2;obtain⟨z3,e3,_,_⟩:=Qy Db g3;simp at e0 e1 e2 e3;subst e0 e1 e2 e3;refine⟨⟨z0,z1,z2,z3⟩,hz0,fun _=>⟨b,off,rfl,hb,?_,?_,?_,?_⟩⟩
  ·simpa using hj 0 A0
  ·simpa [YT] using hj 1 A0
  ·simpa [YT] using hj 2 A0
  ·simpa [YT] using hj 3 A0)
 subst hl;refine⟨_,l,rfl,fun e he=>?_,A,cap,rfl,h1,h2,fun h0=>?_⟩
 ·obtain⟨i,hi⟩:=LH.1 he
  exact (hp i e hi).1
 ·obtain⟨b,off,rfl,hb,hx⟩:=hc h0
  refine⟨b,off,rfl,hb,fun i x hi=>?_⟩;obtain⟨b',off',e,_,h5⟩:=(hp i x hi).2 h0;cases e;exact h5
theorem aaH {r:Reach} {b0:Nat} {v:Value} {d:DataW H} {p:List MemPlace} (hv:Value.okWide Tryz.prog w r b0 25 v) (h:DataW.Trod enc Tryz.prog w base spare held 25 v d p) :
  ∃cv ev sh lk n cd AO,v=.agg #[cv,ev,.int .i64 sh,.int .i64 lk]∧Pj w cv n cd∧IZ w ev AO:=by
 obtain⟨cs,rfl,hsz⟩:=okWide_struct Tryz.underlying25 hv;obtain⟨c0,c1,c2,c3,rfl⟩:=array4 (hsz.trans aqs);obtain⟨fuel,hf⟩:=h;obtain⟨y0,y1,y2,y3,n,g0,g1,g2,g3⟩:=trod_struct4 Tryz.underlying25 hf;simp only [Value.cells,arK,asH,rN,List.drop_zero,G0,Fp,List.take_zero] at g0 g1 g2 g3;obtain⟨cv,m,cd,e0,hW⟩:=agL g0;obtain⟨ev,AO,e1,hE⟩:=asw g1;obtain⟨z2,e2,_,_⟩:=Qy Db g2;obtain⟨z3,e3,_,_⟩:=Qy Db g3;simp at e0 e1 e2 e3;subst e0 e1 e2 e3;exact⟨c0,c1,z2,z3,m,cd,AO,rfl,hW,hE⟩
end
inductive GR (G:List AU):Nat→Prop
 | start:GR G 0
 | step {b t:Nat} {x:AU}:GR G b→G[b]?=some x→(t:Int)∈x.nx→GR G t
abbrev bvs (n:Nat) (sn:Nat→Bool):List Value:=(List.range n).map fun i=>.bool (sn i)
theorem xE (n:Nat) (sn:Nat→Bool) {p:Nat} (hp:p<n) (b:Bool):(bvs n sn).set p (.bool b)=bvs n (upd sn p b):=by
 apply JR;intro q;rw [Gv];simp only [bvs,FQ,gm,D8];by_cases e:p=q
 ·subst e
  rw [A9 rfl,A9 hp,FI hp];simp [upd]
 ·rw [A6 e]
  by_cases hq:q<n
  ·rw [FI hq]
   have:q≠p:=fun h=>e h.symm;simp [upd,this]
  ·rw [Dy (by simpa using hq)]
   rfl
theorem bE:(Tryz.prog.info? 4).map (fun i=>(i.zero,i.size,i.bytes))=some (some (.bool false),1,1):=by kernel_rfl
structure SM (w wr:World) (g n:Nat) (sn:Nat→Bool):Prop where
 AA:Below w.heap.size w wr
 row:wr.ownsRow w.heap.size 4 1 (.slice (some ⟨g,0,none⟩) n n) n (bvs n sn)
theorem SM.cells {w wr:World} {g n:Nat} {sn:Nat→Bool} (h:SM w wr g n sn) {i:Nat} (hi:i<n):wr.cell? ⟨g,i,none⟩=some (.bool (sn i))∧wr.frozen? ⟨g,i,none⟩=false:=
 ⟨by rw [h.row.cellAt _ A0,D8,FI hi];rfl,h.row.frozenAt _⟩
theorem SM.set {w wr:World} {g n:Nat} {sn:Nat→Bool} (h:SM w wr g n sn) {i:Nat} (hi:i<n) (b:Bool):SM w (wr.setCell ⟨g,i,none⟩ (.bool b)) g n (upd sn i b):=
 ⟨h.AA.setCell (h.row.lt g rfl).1 _,by rw [←xE n sn hi b];exact (h.row.stored i (.bool b)).1⟩
structure RS (G:List AU) (sn:Nat→Bool):Prop where
 zero:sn 0=true
 sound:∀i,i<G.length→sn i=true→GR G i
theorem RS.add {G:List AU} {sn:Nat→Bool} (h:RS G sn) {b t:Nat} {x:AU} (hb:b<G.length) (hs:sn b=true) (hx:G[b]?=some x) (ht:(t:Int)∈x.nx):RS G (upd sn t true):=by
 refine⟨?_,fun i hi hs'=>?_⟩
 ·unfold upd;split;rfl;exact h.zero
 ·unfold upd at hs'
  split at hs'
  ·rename_i e;rw [e];exact GR.step (h.sound b hb hs) hx ht
  ·exact h.sound i hi hs'
theorem aaa {l:List Int} (h:l.Nodup) (x:Int):(Fq l x).Nodup:=by
 unfold Fq;split
 ·exact h
 ·rename_i hx
  rw [Uh];exact⟨h,by simp,fun a ha b hb=>by simp at hb;subst hb;exact fun e=>hx (e▸ha)⟩
theorem gS (L:List (Int×Int)) (S:List Int):(Gf L S).Nodup:=by
 have:∀(S l:List Int),l.Nodup→(S.foldl (fun l s=>Fq l (idx L s:Int)) l).Nodup:=by
  intro S;induction S with
  | nil=>intro l h;exact h
  | cons s S ih=>intro l h;rw [LP];exact ih _ (aaa h _)
 exact this S [] AR
theorem asl {l:List Int} {x y:Int}:y∈Fq l x↔y∈l∨y=x:=by
 unfold Fq;split
 ·rename_i h
  constructor
  ·exact .inl
  ·rintro (h1|rfl)
   ·exact h1
   ·exact h
 ·simp
theorem cJ (L:List (Int×Int)) (S:List Int) (y:Int):y∈Gf L S↔∃s∈S,y=(idx L s:Int):=by
 have:∀(S l:List Int),y∈(S.foldl (fun l s=>Fq l (idx L s:Int)) l)↔y∈l∨∃s∈S,y=(idx L s:Int):=by
  intro S;induction S with
  | nil=>intro l;simp
  | cons s S ih=>
   intro l;rw [LP,ih,asl];simp [or_assoc]
 have h:=this S [];simpa [Gf] using h
structure De (c:Int→Ins) (st en:Int) (D:List Int) (L:List (Int×Int)):Prop where
 b:oT c st D (en - st).toNat L
 mem:∀a,a∈D↔Ek c st en a
 all:∀a∈D,∀t∈CN (c a) a,t∈D
 st0:0≤st
 lt:st<en
theorem De.of {c:Int→Ins} {st en:Int} {D:List Int} (h0:0≤st) (h1:st<en) (hR:Ex c st en D [] (-1)):De c st en D (blk c st D (en - st).toNat):=by
 refine⟨X9 c st D _,hR.mem h1,fun a ha t ht=>?_,h0,h1⟩;have hb:¬NP c st en a:=by
  rcases hR.b with h|h
  ·exact h.2 a ha
  ·have:=(hR.dr _ h.1).range _ _ _ h1
   omega
 have hin:st≤t∧t<en:=Sw fun h=>hb ⟨t,ht,h⟩;rcases hR.cl a ha t ht hin.1 hin.2 with h|h
 ·exact h
 ·cases h
section
variable {c:Int→Ins} {st en:Int} {D:List Int} {L:List (Int×Int)}
theorem De.range (h:De c st en D L) {a:Int} (ha:a∈D):st≤a∧a<en:=((h.mem a).1 ha).range _ _ _ h.lt
theorem De.succ (h:De c st en D L) {p:Int×Int} (hp:p∈L) {s:Int} (hs:s∈CN (c (p.2 - 1)) (p.2 - 1)):s∈D∧∃q∈L,q.1=s:=by
 have hla:=h.b.last p hp;have Qn:=h.all _ hla s hs;have hin:=h.range Qn;refine⟨Qn,h.b.num s hin.1 dX Qn ?_⟩;by_cases hbr:Cg (c (p.2 - 1)).op=true
 ·rw [SC]
  refine .inr ⟨_,hla,?_⟩;unfold Hj;rw [A9 hbr];exact hs
 ·have:s=p.2:=by
   unfold CN at hs;unfold Cg at hbr;split at hs
   ·cases hs
   ·split at hs
    ·simp_all
    ·split at hs
     ·rename_i h;rcases h with h|h<;>simp [h] at hbr
     ·simp at hs;omega
  rw [this] at Qn hin ⊢;exact h.b.cl _ hp dX Qn
theorem De.next (h:De c st en D L) {k:Nat} (hk:k<L.length):∀t∈EX c L k,0≤t∧t<(L.length:Int):=by
 intro t ht;unfold EX at ht;obtain⟨s,hs,rfl⟩:=(cJ _ _ _).1 ht;have e1:L.getD k (0,0)=L[k]:=by simp [List.getD,Ab hk]
 unfold JV at hs;rw [e1] at hs;obtain⟨_,hq⟩:=h.succ (CQ hk) hs;have:=(fT hq).2.1;omega
theorem Lv (c:Int→Ins) (L:List (Int×Int)) {k:Nat} (hk:k<L.length):(BP c L)[k]?=some ⟨(L[k]).1,(L[k]).2,EX c L k⟩:=by
 unfold BP;rw [D8,FI hk];simp [List.getD,Ab hk]
theorem O8 (c:Int→Ins) (L:List (Int×Int)):(BP c L).length=L.length:=by simp [BP]
theorem ael {n:Nat} {G:List AU} (h1:∀(k:Nat) (x:AU),G[k]?=some x→x.lo<x.hi∧x.nx.length≤2∧(∀t∈x.nx,0≤t∧t<(n:Int))∧x.nx.Nodup) (h2:∀x,G[0]?=some x→0≤x.lo) (h3:∀(k:Nat) (x y:AU),G[k]?=some x→G[k+1]?=some y→x.hi≤y.lo):∃z,Dg n 0 G z:=by
 have key:∀m,m≤G.length→∃z,Dg n 0 (G.take m) z∧(∀x,G[m]?=some x→z≤x.lo):=by
  intro m;induction m with
  | zero=>intro _;exact⟨0,rfl,h2⟩
  | succ m ih=>
   intro hm;obtain⟨z,hz,hl⟩:=ih A0;have hx:G[m]?=some G[m]:=Ab A0;obtain⟨a1,a2,a3,a4⟩:=h1 m _ hx;refine⟨G[m].hi,?_,fun y hy=>h3 m _ y hx hy⟩;rw [I2 hx];refine hz.snoc ⟨hl _ hx,a1,a2,a3,fun ⟨e1,e2⟩=>?_⟩;match BK:G[m].nx,e1,e2,a4 with
   | [u,v],_,e2,a4=>simp at e2 a4;exact a4 e2
 obtain⟨z,hz,_⟩:=key G.length (AH _);rw [Gx] at hz;exact⟨z,hz⟩
theorem ap5 {nx:List Int} (h:nx.Nodup) (p k:Nat):Ku nx p k=if (p:Int)∈nx then [(k:Int)] else []:=by
 induction nx with
 | nil=>rfl
 | cons x nx ih=>
  obtain⟨h1,h2⟩:=List.nodup_cons.1 h;have ih:=ih h2;unfold Ku at ih ⊢;by_cases e:x=(p:Int)
  ·subst e
   rw [A9 AR];simp only [dF,decide_true,QW,XX];rw [ih,A6 h1]
  ·have e':(p:Int)≠x:=fun h=>e h.symm
   simp only [dF,e,decide_false,NJ,Lc];rw [ih];simp [e']
theorem asD (c:Int→Ins) (L:List (Int×Int)):(List.range (BP c L).length).map (J6 (BP c L) (BP c L).length [])=Jc c L:=by
 unfold Jc;rw [O8];apply SI;intro p _;unfold J6 QU SG;have:Ku [] p L.length=[]:=rfl;rw [this,Jz];have key:∀m,m≤L.length→(List.range m).flatMap (fun b=>Ku ((BP c L).getD b ⟨0,0,[]⟩).nx p b)=((List.range m).filter (fun b=>decide ((p:Int)∈EX c L b))).map (fun (b:Nat)=>(b:Int)):=by
  intro m;induction m with
  | zero=>intro _;rfl
  | succ m ih=>
   intro hm;rw [JT,Qu,Zz,Qh,ih A0];congr 1
   have e:(BP c L).getD m ⟨0,0,[]⟩=⟨(L[m]).1,(L[m]).2,EX c L m⟩:=by simp [List.getD,Lv c L (show m<L.length by omega)]
   simp only [Jy,eB,Jz,e];rw [ap5 (show (EX c L m).Nodup from gS _ _)];by_cases hp:(p:Int)∈EX c L m
   ·rw [A9 hp];simp [hp]
   ·rw [A6 hp];simp [hp]
 exact key L.length (AH _)
theorem De.valid (h:De c st en D L) (hst:st∈D):Dm (BP c L) (Jc c L):=by
 have hn0:L≠[]:=h.b.ne hst dX;refine⟨fun e=>hn0 ?_,by simp [Jc,BP],?_,asD c L⟩
 ·have:=congrArg List.length e
  rw [O8] at this;exact iQ.1 this
 ·rw [O8]
  refine ael (fun k x hx=>?_) (fun x hx=>?_) (fun k x y hx hy=>?_)
  ·have hk:k<L.length:=by have:=(Bc.1 hx).1;rwa [O8] at this
   rw [Lv c L hk] at hx;cases hx;refine⟨(h.b.lo _ (CQ hk)).2.1,FK (qX _ _) (Zc _ _),h.next hk,gS _ _⟩
  ·have hk:0<L.length:=by have:=(Bc.1 hx).1;rwa [O8] at this
   rw [Lv c L hk] at hx;cases hx;have:=(h.b.lo _ (CQ hk)).1;have:=h.st0;simp only;omega
  ·have hk:k+1<L.length:=by have:=(Bc.1 hy).1;rwa [O8] at this
   rw [Lv c L A0] at hx;rw [Lv c L hk] at hy;cases hx;cases hy;exact QS.1 h.b.Px k (k+1) A0 hk A0
end
section
variable {c:Int→Ins} {st en:Int} {D:List Int} {L:List (Int×Int)}
structure vR (c:Int→Ins) (st:Int) (D:List Int) (x:Int):Prop where
 ne:x≠st
 before:x - 1∈D
 br:Cg (c (x - 1)).op=false
 halt:(c (x - 1)).op≠1
 unlock:(c (x - 1)).op≠29
 lock:(c x).op≠28
theorem De.inner (h:De c st en D L) {x:Int} (hx:x∈D) (hl:Ei c st D x=false):vR c st D x:=by
 have hnl:¬Pm c st D x:=fun hh=>by rw [(SC c st D x).2 hh] at hl;cases hl
 have hns:x≠st:=fun e=>hnl (.inl e);have key:∃a,a∈D∧x∈CN (c a) a:=by
  have:=(h.mem x).1 hx;cases this with
  | start=>exact absurd rfl hns
  | step h1 h2 h3 h4=>exact⟨_,(h.mem _).2 h1,h2⟩
 obtain⟨a,ha,hs⟩:=key;have hbr:Cg (c a).op=false:=by
  rcases hb:Cg (c a).op
  ·rfl
  ·exact absurd (.inr ⟨a,ha,by unfold Hj;rw [A9 hb];exact hs⟩) hnl
 have hsa:(c a).op≠1∧x=a+1:=by
  unfold CN at hs;unfold Cg at hbr;split at hs
  ·cases hs
  ·rename_i h1
   refine⟨h1,?_⟩;split at hs
   ·rename_i h2;simp [h2] at hbr
   ·split at hs
    ·rename_i h2;rcases h2 with h2|h2<;>simp [h2] at hbr
    ·simpa using hs
 obtain⟨h1,rfl⟩:=hsa;have e:a+1 - 1=a:=by omega
 refine⟨hns,by rw [e];exact ha,by rw [e];exact hbr,by rw [e];exact h1,?_,fun h28=>?_⟩
 ·rw [e]
  intro h29;exact hnl (.inr ⟨a,ha,by unfold Hj;rw [A6 (by simp [hbr]),A6 A0,A9 h29];simp⟩)
 ·refine hnl (.inr ⟨a+1,hx,?_⟩)
  have hb2:Cg (c (a+1)).op=false:=by simp [Cg,h28]
  unfold Hj;rw [A6 (by simp [hb2]),A9 h28];simp
theorem bz (hg:∀x∈D,Ei c st D x=false→x≠st∧x - 1∈D):∀m:Nat,(∀p∈blk c st D m,∀x,p.1<x→x<p.2→x∈D∧Ei c st D x=false)∧(0<m→st+(m:Int) - 1∈D→∃M a,blk c st D m=M++[(a,st+(m:Int))])
 | 0=>⟨by simp [blk],fun h=>by omega⟩
 | m+1=>by
  obtain⟨i1,i2⟩:=bz hg m;have e0:st+((m+1:Nat):Int) - 1=st+m:=by omega
  have e1:st+((m+1:Nat):Int)=st+m+1:=by omega
  rw [e0,e1];unfold blk;by_cases hD:st+(m:Int)∈D
  ·rw [A9 hD]
   by_cases hl:Ei c st D (st+m)=true
   ·rw [A9 hl]
    refine⟨fun p hp x h1 h2=>?_,fun _ _=>⟨_,_,rfl⟩⟩;rcases Ch.1 hp with hp|hp
    ·exact i1 p hp x h1 h2
    ·simp at hp;subst hp;simp only at h1 h2;omega
   ·have hl':Ei c st D (st+m)=false:=by simpa using hl
    rw [A6 hl];obtain⟨hn,hb⟩:=hg _ hD hl';have hm:0<m:=by
     rcases UC m with e|e
     ·subst e;simp at hn
     ·exact e
    obtain⟨M,a,hM⟩:=i2 hm hb;rw [hM,Yp];refine⟨fun p hp x h1 h2=>?_,fun _ _=>⟨_,_,rfl⟩⟩;rcases Ch.1 hp with hp|hp
    ·exact i1 p (by rw [hM];simp [hp]) x h1 h2
    ·simp at hp;subst hp
     simp only at h1 h2;by_cases ex:x=st+m
     ·rw [ex];exact⟨hD,hl'⟩
     ·exact i1 (a,st+m) (by rw [hM];simp) x h1 GD
  ·rw [A6 hD]
   exact⟨i1,fun _ h=>absurd h hD⟩
theorem vY {a t:Int} (hbr:Cg (c a).op=false) (hs:t∈CN (c a) a):t=a+1∧(c a).op≠1:=by
 unfold CN at hs;unfold Cg at hbr;split at hs
 ·cases hs
 ·rename_i h1
  refine⟨?_,h1⟩;split at hs
  ·rename_i h2;simp [h2] at hbr
  ·split at hs
   ·rename_i h2;rcases h2 with h2|h2<;>simp [h2] at hbr
   ·simpa using hs
theorem vF (hg:∀x∈D,Ei c st D x=false→x≠st∧x - 1∈D):∀m:Nat,∀a∈D,st≤a→a<st+(m:Int)→∃p∈blk c st D m,p.1≤a∧a<p.2
 | 0,a,_,h1,h2=>by omega
 | m+1,a,ha,h1,h2=>by
  have ih:=vF hg m;unfold blk;by_cases hD:st+(m:Int)∈D
  ·rw [A9 hD]
   by_cases hl:Ei c st D (st+m)=true
   ·rw [A9 hl]
    by_cases e:a=st+m
    ·exact⟨(st+m,st+m+1),by simp,by simp only;omega,by simp only;omega⟩
    ·obtain⟨p,hp,q⟩:=ih a ha h1 A0
     exact⟨p,by simp [hp],q⟩
   ·have hl':Ei c st D (st+m)=false:=by simpa using hl
    rw [A6 hl];obtain⟨hn,hb⟩:=hg _ hD hl';have hm:0<m:=by
     rcases UC m with e|e
     ·subst e;simp at hn
     ·exact e
    obtain⟨M,a',hM⟩:=(bz hg m).2 hm hb;have hlo:=(X9 c st D m).lo (a',st+m) (by rw [hM];simp);rw [hM,Yp];by_cases e:a=st+m
    ·exact⟨(a',st+m+1),by simp,by simp only at hlo ⊢;omega,by simp only;omega⟩
    ·obtain⟨p,hp,q1,q2⟩:=ih a ha h1 A0
     rw [hM] at hp;rcases Ch.1 hp with hp|hp
     ·exact⟨p,by simp [hp],q1,q2⟩
     ·simp at hp;subst hp
      exact⟨(a',st+m+1),by simp,q1,by simp only at q2 ⊢;omega⟩
  ·rw [A6 hD]
   by_cases e:a=st+m
   ·rw [e] at ha;exact absurd ha hD
   ·exact ih a ha h1 A0
theorem De.xH (h:De c st en D (blk c st D (en - st).toNat)) {p:Int×Int} (hp:p∈blk c st D (en - st).toNat) {x:Int} (h1:p.1<x) (h2:x<p.2):x∈D∧Ei c st D x=false:=
 (bz (c:=c) (st:=st) (D:=D) (fun x hx hl=>⟨(h.inner hx hl).ne,(h.inner hx hl).before⟩) (en - st).toNat).1 p hp x h1 h2
theorem De.cover (h:De c st en D (blk c st D (en - st).toNat)) {a:Int} (ha:a∈D):∃p∈blk c st D (en - st).toNat,p.1≤a∧a<p.2:=by
 have hr:=h.range ha;exact vF (c:=c) (st:=st) (D:=D) (fun x hx hl=>⟨(h.inner hx hl).ne,(h.inner hx hl).before⟩) _ a ha hr.1 A0
theorem De.AG (h:De c st en D (blk c st D (en - st).toNat)) {p:Int×Int} (hp:p∈blk c st D (en - st).toNat) {x:Int} (h1:p.1<x) (h2:x<p.2):x∈D∧vR c st D x:=by
 obtain⟨a,b⟩:=(bz (c:=c) (st:=st) (D:=D) (fun x hx hl=>⟨(h.inner hx hl).ne,(h.inner hx hl).before⟩) (en - st).toNat).1 p hp x h1 h2;exact⟨a,h.inner a b⟩
theorem De.uniq (h:De c st en D L) {i j:Nat} (hi:i<L.length) (hj:j<L.length) (e:(L[i]).1=(L[j]).1):i=j:=by
 rcases Nat.lt_trichotomy i j with hlt|rfl|hlt
 ·have:=QS.1 h.b.Px i j hi hj hlt
  have:=(h.b.lo _ (CQ hi)).2.1;omega
 ·rfl
 ·have:=QS.1 h.b.Px j i hj hi hlt
  have:=(h.b.lo _ (CQ hj)).2.1;omega
theorem jL (h:De c st en D L) {i:Nat} (hi:i<L.length):idx L (L[i]).1=i:=by
 obtain⟨_,h2,h3⟩:=fT (L:=L) (x:=(L[i]).1) ⟨L[i],CQ hi,rfl⟩;have e:L.getD (idx L (L[i]).1) (0,0)=L[idx L (L[i]).1]:=by simp [List.getD,Ab h2]
 rw [e] at h3;exact h.uniq h2 hi h3
theorem De.first (h:De c st en D L) (hst:st∈D) (h0:0<L.length):(L[0]).1=st:=by
 obtain⟨q,hq,e⟩:=h.b.num st (EJ _) dX hst (eA c st D);obtain⟨j,hj,ej⟩:=Rk hq;rcases UC j with e0|e0
 ·subst e0;rw [ej];exact e
 ·have:=QS.1 h.b.Px 0 j h0 hj e0
  have:=(h.b.lo _ (CQ h0));rw [ej] at *;omega
theorem De.asv {i:Nat} (hi:i<L.length) (hh:(c ((L[i]).2 - 1)).op=1):EX c L i=[]:=by
 unfold EX JV;have e1:L.getD i (0,0)=L[i]:=by simp [List.getD,Ab hi]
 rw [e1];unfold CN;rw [A9 hh];rfl
end
theorem De.reached {c:Int→Ins} {st en:Int} {D:List Int} {L:List (Int×Int)} (hL:blk c st D (en - st).toNat=L) (h:De c st en D L) (hst:st∈D):∀i,i<(BP c L).length→GR (BP c L) i:=by
 have h':De c st en D (blk c st D (en - st).toNat):=by rw [hL];exact h
 have hn0:0<L.length:=Gk.2 (h.b.ne hst dX);have key:∀a,Ek c st en a→∀i (hi:i<L.length),(L[i]).1≤a→a<(L[i]).2→GR (BP c L) i:=by
  intro a ha;induction ha with
  | start=>
   intro i hi h1 h2;have l0:=h.first hst hn0;have li:=h.b.lo _ (CQ hi);have:i=0:=h.uniq hi hn0 A0;subst this;exact GR.start
  | @step a t h1 h2 h3 h4 ih=>
   intro i hi hl hu;have VA:=(h.mem a).2 h1;by_cases XF:t=(L[i]).1
   ·-- the block of a
    obtain⟨k,hk,hka,hkb⟩:∃(k:Nat) (hk:k<L.length),(L[k]).1≤a∧a<(L[k]).2:=by
     obtain⟨p,hp,q1,q2⟩:=h'.cover VA;rw [hL] at hp;obtain⟨k,hk,ek⟩:=Rk hp;exact⟨k,hk,by rw [ek];exact q1,by rw [ek];exact q2⟩
    have hg:=ih k hk hka hkb;by_cases EB:a=(L[k]).2 - 1
    ·refine GR.step hg (Lv c L hk) ?_
     simp only;unfold EX;rw [cJ];refine⟨t,?_,by rw [XF,jL h hi]⟩;unfold JV;have e1:L.getD k (0,0)=L[k]:=by simp [List.getD,Ab hk]
     rw [e1,← EB];exact h2
    ·exfalso
     have hin:=h'.AG (p:=L[k]) (by rw [hL];exact CQ hk) (x:=a+1) A0 A0;have hb:=hin.2.br;rw [show a+1 - 1=a by omega] at hb;have ht:=(vY hb h2).1;rcases Nat.lt_trichotomy i k with hlt|rfl|hlt
     ·have:=QS.1 h.b.Px i k hi hk hlt
      have:=(h.b.lo _ (CQ hi)).2.1;omega
     ·omega
     ·have:=QS.1 h.b.Px k i hk hi hlt
      omega
   ·obtain⟨auY,aF⟩:=h'.xH (p:=L[i]) (by rw [hL];exact CQ hi) (x:=t) A0 hu
    have hbr:Cg (c a).op=false:=by
     rcases hb:Cg (c a).op
     ·rfl
     ·have:Ei c st D t=true:=(SC c st D t).2 (.inr ⟨a,VA,by unfold Hj;rw [A9 hb];exact h2⟩)
      rw [this] at aF;cases aF
    have ht:=(vY hbr h2).1;exact ih i hi A0 A0
 intro i hi;rw [O8] at hi;have PK:=h.b.lead _ (CQ hi);have hlo:=h.b.lo _ (CQ hi);exact key _ ((h.mem _).1 PK.1) i hi (EJ _) hlo.2.1
section
variable {c c':Int→Ins} {st en:Int}
theorem mK (hlt:st<en) (h:∀a,st≤a→a<en→c a=c' a) {a:Int} (ha:Ek c st en a):Ek c' st en a:=by
 induction ha with
 | start=>exact .start
 | step h1 h2 h3 h4 ih=>
  have hr:=h1.range _ _ _ hlt;exact .step ih (by rw [←h _ hr.1 hr.2];exact h2) h3 h4
theorem asM (hlt:st<en) (h:∀a,st≤a→a<en→c a=c' a) (a:Int):Ek c st en a↔Ek c' st en a:=
 ⟨mK hlt h,mK hlt (fun a h1 h2=>(h a h1 h2).symm)⟩
theorem aq8 (h:∀a,st≤a→a<en→c a=c' a) {a:Int} (h1:st≤a) (h2:a<en):NP c st en a↔NP c' st en a:=by
 unfold NP;rw [h a h1 h2]
theorem Ex.same {D D':List Int} {bad lf:Int} (h0:0≤st) (hlt:st<en) (h:∀a,st≤a→a<en→c a=c' a) (hR:Ex c st en D [] bad) (P0:Ex c' st en D' [] lf):(∀x,x∈D↔x∈D')∧bad=lf:=by
 have hm:∀x,x∈D↔x∈D':=fun x=>by rw [hR.mem hlt,P0.mem hlt,asM hlt h]
 have hb:∀x,x∈D→(NP c st en x↔NP c' st en x):=fun x hx=>by
  have:=(hR.dr x hx).range _ _ _ hlt;exact aq8 h this.1 this.2
 refine⟨hm,?_⟩;rcases hR.b with⟨e,h1⟩|⟨e,h1,h2⟩<;>rcases P0.b with⟨e',h1'⟩|⟨e',h1',h2'⟩
 ·rw [e,e']
 ·exact absurd ((hb _ ((hm _).2 e')).2 h1') (h1 _ ((hm _).2 e'))
 ·exact absurd ((hb _ e).1 h1) (h1' _ ((hm _).1 e))
 ·have a1:=h2 _ ((hm _).2 e') ((hb _ ((hm _).2 e')).2 h1')
  have a2:=h2' _ ((hm _).1 e) ((hb _ e).1 h1);omega
theorem ao1 {D:List Int} (h:∀a∈D,c a=c' a) (x:Int):Ei c st D x=Ei c' st D x:=by
 unfold Ei;congr 1
 apply Qj.2;simp only [tX,E4];constructor
 ·rintro⟨a,ha,hx⟩;exact⟨a,ha,by rw [←h a ha];exact hx⟩
 ·rintro⟨a,ha,hx⟩;exact⟨a,ha,by rw [h a ha];exact hx⟩
theorem vq {D:List Int} (h:∀a∈D,c a=c' a):∀m,blk c st D m=blk c' st D m
 | 0=>rfl
 | m+1=>by
  unfold blk;rw [vq h m,ao1 h]
theorem xz {D D':List Int} (hm:∀x,x∈D↔x∈D') (h:∀a∈D,c a=c' a) (m:Nat):blk c st D m=blk c' st D' m:=by
 rw [vq h m,l7 c' st hm m]
theorem tV {L:List (Int×Int)} (h:∀p∈L,c (p.2 - 1)=c' (p.2 - 1)) {k:Nat} (hk:k<L.length):EX c L k=EX c' L k:=by
 unfold EX JV;have e:L.getD k (0,0)=L[k]:=by simp [List.getD,Ab hk]
 rw [e,h _ (CQ hk)]
theorem atC {L:List (Int×Int)} (h:∀p∈L,c (p.2 - 1)=c' (p.2 - 1)):BP c L=BP c' L:=by
 unfold BP;apply SI;intro k hk;rw [tV h (Gp.1 hk)]
theorem asY {L:List (Int×Int)} (h:∀p∈L,c (p.2 - 1)=c' (p.2 - 1)):Jc c L=Jc c' L:=by
 unfold Jc;apply SI;intro p hp;unfold SG;congr 1
 apply List.filter_congr;intro b hb;rw [tV h (Gp.1 hb)]
end
structure Res where
 G:List AU
 P:List (List Int)
 at_:Int
 er:Int
inductive Out (c:Int→Ins) (st en:Int):Res→Prop
 | bad (D:List Int) (bad:Int) (h0:0≤bad) (h:Ex c st en D [] bad):Out c st en ⟨[],[],bad,10⟩
 | ok (D:List Int) (h:Ex c st en D [] (-1)):Out c st en ⟨BP c (blk c st D (en - st).toNat),Jc c (blk c st D (en - st).toNat),-1,0⟩
theorem Out.same {c c':Int→Ins} {st en:Int} {r r':Res} (h0:0≤st) (hlt:st<en) (hc:∀a,st≤a→a<en→c a=c' a) (h:Out c st en r) (h':Out c' st en r'):r=r':=by
 have Ff:∀(D D':List Int) (b b':Int),Ex c st en D [] b→Ex c' st en D' [] b'→(∀x,x∈D↔x∈D')∧b=b':=fun D D' b b' h1 h2=>Ex.same h0 hlt hc h1 h2;cases h with
 | bad D b hb hR=>
  cases h' with
  | bad D' b' hb' P0=>rw [(Ff _ _ _ _ hR P0).2]
  | ok D' P0=>have:=(Ff _ _ _ _ hR P0).2;omega
 | ok D hR=>
  cases h' with
  | bad D' b' hb' P0=>have:=(Ff _ _ _ _ hR P0).2;omega
  | ok D' P0=>
   obtain⟨hm,_⟩:=Ff _ _ _ _ hR P0;have hD:∀a∈D,c a=c' a:=fun a ha=>by
    have:=(hR.dr a ha).range _ _ _ hlt;exact hc a this.1 this.2
   rw [←xz hm hD];have hL:∀p∈blk c st D (en - st).toNat,c (p.2 - 1)=c' (p.2 - 1):=fun p hp=>hD _ ((X9 c st D _).last p hp);rw [atC hL,asY hL]
end
end Go.Proofs.YtlmgkipmfgijiaaGreatDoor
