/-
  What is proved here: parts bCc, bCd.
-/
import Derived.Test.YtlmgkipmfgijiaaGreatDoorVa
import Derived.Test.YtlmgkipmfgijiaaGreatDoorVc
import Derived.Test.YtlmgkipmfgijiaaGreatDoorVb
import Derived.ChangeSame
import Derived.ChangeVars
import Derived.JoinedOf
import Derived.RowKit
import Derived.Deep.Strs
namespace Go.Proofs.YtlmgkipmfgijiaaGreatDoor
set_option linter.unusedVariables false
set_option linter.unusedSimpArgs false
set_option maxRecDepth 100000
set_option maxHeartbeats 8000000
open Go.RowKit
def Jq (L:List (Int×Int)):List Value:=L.flatMap fun p=>[.int .i64 p.1,.int .i64 p.2,.slice none 0 0]
theorem gS (L:List (Int×Int)):(Jq L).length=L.length*3:=by
 induction L with
 | nil=>rfl
 | cons p L ih=>simp only [Jq,JO,FO,GD,Yp] at ih ⊢;omega
theorem eW (L:List (Int×Int)) (a b:Int):Jq (L++[(a,b)])=Jq L++[.int .i64 a,.int .i64 b,.slice none 0 0]:=by simp [Jq]
theorem yc (L:List (Int×Int)) (a b t:Int):(Jq (L++[(a,b)])).set (L.length*3+1) (.int .i64 t)=Jq (L++[(a,t)]):=by
 rw [eW,eW,← gS,List.set_append_right _ _ A0];simp
theorem pT (L:List (Int×Int)) (a b:Int):(Jq (L++[(a,b)]))[L.length*3+1]?=some (.int .i64 b):=by
 rw [eW,← gS,J4 A0];simp
structure BM (V wr:World) (gb nb:Nat) (bv:Value) (L:List (Int×Int)):Prop where
 gV:gb<V.heap.size
 nV:nb<V.heap.size
 gn:gb≠nb
 os:wr.os=V.os
 tape:wr.tape=V.tape
 output:wr.output=V.output
 sz:V.heap.size≤wr.heap.size
 blk:∀k,k<V.heap.size→k≠gb→k≠nb→wr.heap[k]?=V.heap[k]?
 g:wr.heap[gb]?=some (.cells #[bv,.slice none 0 0] 31 (0,0))
 num:Im wr nb (LU L)
 row:wr.ownsRow V.heap.size 78 3 bv L.length (Jq L)
theorem BM.below {V wr wr':World} {gb nb:Nat} {bv:Value} {L:List (Int×Int)} (h:BM V wr gb nb bv L) (hb:Below wr.heap.size wr wr'):BM V wr' gb nb bv L:=
 ⟨h.gV,h.nV,h.gn,hb.os.trans h.os,hb.tape.trans h.tape,hb.output.trans h.output,EM h.sz hb.size,fun k h1 h2 h3=>(hb.block k YL).trans (h.blk k h1 h2 h3),(hb.block _ (by have:=h.sz;have:=h.gV;omega)).trans h.g,h.num.below hb h.num.lt,CH h.row hb⟩
theorem apU (w:World) (a b c:Value) (t:TypeId):∀j u,[a,b,c][j]?=some u→(w.alloc (.cells #[a,b,c] t)).cell? ((⟨w.heap.size,0,none⟩:Addr).add j)=some u:=by
 intro j u h;have e:(⟨w.heap.size,0,none⟩:Addr).add j=⟨w.heap.size,j,none⟩:=by cases j<;>simp [Addr.add]
 rw [e];unfold World.cell?;rw [Ai];simpa using h
theorem ar6 (L:List (Int×Int)):ND L (fun _=>.slice none 0 0)=Jq L:=by
 apply JX;intro q;by_cases hq:q<L.length*3
 ·obtain⟨a,b,hb,rfl⟩:∃a b,b<3∧q=a*3+b:=⟨q / 3,q % 3,Nat.mod_lt _ A0,by omega⟩
  have ha:a<L.length:=by omega
  rw [Qy L _ ha hb];have:∀(L:List (Int×Int)) (a b:Nat),a<L.length→b<3→(Jq L)[a*3+b]?=[.int .i64 (L.getD a (0,0)).1,.int .i64 (L.getD a (0,0)).2,.slice none 0 0][b]?:=by
   intro L;induction L with
   | nil=>intro a b h;simp at h
   | cons p L ih=>
    intro a b h hb;have e:Jq (p :: L)=[.int .i64 p.1,.int .i64 p.2,.slice none 0 0]++Jq L:=by simp [Jq]
    rw [e];cases a with
    | zero=>rw [JJ Cl];simp
    | succ a=>
     rw [J4 Cl];have:=ih a b (by simp at h;omega) hb;rw [show (a+1)*3+b - [Value.int .i64 p.1,.int .i64 p.2,.slice none 0 0].length=a*3+b by simp;omega,this];simp [List.getD]
  exact (this L a b ha hb).symm
 ·rw [E0 (by rw [fB];omega),E0 (by rw [gS];omega)]
theorem aqy {w:World} {b:Nat} {o:Obj} (h:w.heap[b]?=some o):b<w.heap.size:=(Be.1 h).1
theorem apN:(Tryz.prog.info? 78).map (fun i=>(i.zero,i.size,i.bytes))=some (some (.agg #[.int .i64 0,.int .i64 0,.slice none 0 0]),3,40):=by kernel_rfl
theorem BM.im {V wr:World} {gb nb x:Nat} {bv:Value} {L:List (Int×Int)} {f:Int→Option Value} (h:BM V wr gb nb bv L) (hx:Im V x f) (h1:x≠gb) (h2:x≠nb):Im wr x f:=hx.keep (h.blk x hx.lt h1 h2)
theorem BM.Xx {V wr:World} {gb nb:Nat} {bv:Value} {L:List (Int×Int)} (h:BM V wr gb nb bv L) {j:Nat} (hj:bv.ownBlock=some j):V.heap.size≤j∧j<wr.heap.size:=h.row.lt j hj
theorem BM.Mi {V wr:World} {gb nb g cap:Nat} {M:List (Int×Int)} {a b t:Int} (h:BM V wr gb nb (.slice (some ⟨g,0,none⟩) (M.length+1) cap) (M++[(a,b)])):BM V (wr.setCell ⟨g,M.length*3+1,none⟩ (.int .i64 t)) gb nb (.slice (some ⟨g,0,none⟩) (M.length+1) cap) (M++[(a,t)]):=by
 have hr:=h.row;rw [show (M++[(a,b)]).length=M.length+1 by simp] at hr;obtain⟨r1,r2⟩:=hr.stored (M.length*3+1) (.int .i64 t);have hg:=(h.Xx (j:=g) rfl);have SH:=h.gV;have Nw:=h.nV;refine⟨h.gV,h.nV,h.gn,h.os,h.tape,h.output,by simpa using h.sz,fun k h1 h2 h3=>?_,?_,?_,?_⟩
 ·rw [BL _ _ _ _ (by show k≠g;omega)];exact h.blk k h1 h2 h3
 ·rw [BL _ _ _ _ (by show gb≠g;omega)];exact h.g
 ·rw [zU M a t b]
  exact h.num.keep (BL _ _ _ _ (by show nb≠g;omega))
 ·rw [show (M++[(a,t)]).length=M.length+1 by simp,← yc M a b t]
  exact r1
theorem BM.app {V wr w2 w3:World} {gb nb:Nat} {bv v':Value} {L:List (Int×Int)} {a:Int} {o:Obj} (h:BM V wr gb nb bv L) (hm:Im w2 nb (LU (L++[(a,0)]))) (ho:w2.os=wr.os) (ht:w2.tape=wr.tape) (hp:w2.output=wr.output) (hs:w2.heap.size=wr.heap.size) (hk:∀i,i≠nb→w2.heap[i]?=wr.heap[i]?)
  (hg:(w2.alloc o).grownBy w3 bv.ownBlock) (hown:w3.ownsRow V.heap.size 78 3 v' (L.length+1) (Jq (L++[(a,0)]))):BM V (w3.setCell ⟨gb,0,none⟩ v') gb nb v' (L++[(a,0)]):=by
 have SH:=h.gV;have Nw:=h.nV;have hgn:=h.gn;have hsz:=h.sz;have hrl:∀j,bv.ownBlock=some j→V.heap.size≤j:=fun j hj=>(h.Xx hj).1;have hb:∀k,k<V.heap.size→w3.heap[k]?=w2.heap[k]?:=fun k hk=>by
  rw [hg.block k Hz (fun e=>by have:=hrl k e.symm;omega),Bb _ _ A0]
 have hg3:w3.heap[gb]?=some (.cells #[bv,.slice none 0 0] 31 (0,0)):=(hb gb SH).trans ((hk gb hgn).trans h.g);have adZ:=hg.size;rw [El] at adZ;refine⟨h.gV,h.nV,h.gn,?_,?_,?_,by simp;omega,fun k h1 h2 h3=>?_,?_,?_,?_⟩
 ·exact hg.os.trans (ho.trans h.os)
 ·exact hg.tape.trans (ht.trans h.tape)
 ·exact hg.output.trans (hp.trans h.output)
 ·rw [BL _ _ _ _ (by exact h2)]
  exact (hb k h1).trans ((hk k h3).trans (h.blk k h1 h2 h3))
 ·have:=Ej w3 gb 0 _ _ v' hg3
  rw [this];rfl
 ·exact hm.keep ((BL _ _ _ _ (by exact Ds hgn)).trans (hb nb Nw))
 ·rw [show (L++[(a,(0:Int))]).length=L.length+1 by simp]
  refine OU hown ?_ _;intro e;have:=(hown.lt gb e).1;omega
def gy (B:Nat) (bv pv:Value):Prop:=(∀q,bv.ownBlock=some q→B≤q)∧∀q,pv.ownBlock=some q→B≤q
theorem aq9 (cv ev:Value) (sh lk:Int) (n:Nat) (cd:Nat→Int) (AU:List CP) (task:Int) (w:World) (T:C8 w) (HW:Words w cv n cd) (HE:Il w ev AU) :
  Calls Tryz.prog 12 #[.agg #[cv,ev,.int .i64 sh,.int .i64 lk],.int .i64 task] w fun e w'=>
   (¬Ru n cd AU sh lk∧e=.returned (.tuple #[.agg #[.slice none 0 0,.slice none 0 0],.int .i64 (-1),.int .i64 3])∧Below w.heap.size w w')∨
   (Ru n cd AU sh lk∧(task<0∨(AU.length:Int)≤task)∧e=.returned (.tuple #[.agg #[.slice none 0 0,.slice none 0 0],.int .i64 (-1),.int .i64 2])∧Below w.heap.size w w')∨
   (Ru n cd AU sh lk∧∃(k:Nat) (en:CP) (D:List Int) (bad:Int),task=(k:Int)∧AU[k]?=some en∧0≤bad∧Eb (Ak cd) en.st en.en D [] bad∧e=.returned (.tuple #[.agg #[.slice none 0 0,.slice none 0 0],.int .i64 bad,.int .i64 10])∧Below w.heap.size w w')∨
   (Ru n cd AU sh lk∧∃(k:Nat) (en:CP) (D:List Int) (L:List (Int×Int)) (bv pv:Value),task=(k:Int)∧AU[k]?=some en∧Eb (Ak cd) en.st en.en D [] (-1)∧blk (Ak cd) en.st D (en.en - en.st).toNat=L∧e=.returned (.tuple #[.agg #[bv,pv],.int .i64 (-1),.int .i64 0])∧Dc w' bv (EF (Ak cd) L)∧CO w' pv (Je (Ak cd) L)∧Below w.heap.size w w'∧gy w.heap.size bv pv):=by
 have hn:=HW.le;obtain⟨A,cap,hcv,hc1,hc2,hrd⟩:=HW.at_;obtain⟨EA,Cz,hev,he1,he2,hed⟩:=HE.at_;have h63:AU.length≤2 ^ 63 - 1:=by unfold maxLen at he2;omega
 have⟨OO,QL,HT⟩:=B8 HW HE T;clear hrd hed HW HE T;subst hcv hev;obtain⟨V0,Bv⟩:=AA ((w.alloc (.cells #[.slice A n cap,.slice EA AU.length Cz,.int .i64 sh,.int .i64 lk] 25)).alloc (.cells #[.slice none 0 0,.slice none 0 0] 31));have b0:Below w.heap.size w V0:=Bv▸((AP _ _).alloc (AH _) _).alloc AO _;have s0:w.heap.size+2=V0.heap.size:=by rw [←Bv];simp
 have k0:V0.heap[w.heap.size]?=some (.cells #[.slice A n cap,.slice EA AU.length Cz,.int .i64 sh,.int .i64 lk] 25):=by rw [←Bv,Bb _ _ AO];exact Ai _ _
 have k1:V0.heap[w.heap.size+1]?=some (.cells #[.slice none 0 0,.slice none 0 0] 31):=by rw [←Bv];exact E4 _ _ AO
 have y0:V0.cell? ⟨w.heap.size,0,none⟩=some (.slice A n cap):=by simp [World.cell?,k0]
 have y1:V0.cell? ⟨w.heap.size,1,none⟩=some (.slice EA AU.length Cz):=by simp [World.cell?,k0]
 have y2:V0.cell? ⟨w.heap.size,2,none⟩=some (.int .i64 sh):=by simp [World.cell?,k0]
 have y3:V0.cell? ⟨w.heap.size,3,none⟩=some (.int .i64 lk):=by simp [World.cell?,k0]
 have⟨K0,K1,B0,UJ⟩:=Bz k0 k1 b0 (amJ (.slice A n cap) (.slice EA AU.length Cz) sh lk n cd AU V0 (HT.out.below b0) (OO.out.below b0) (QL.out.below b0));have f0:V0.frozen? ⟨w.heap.size+1,0,none⟩=false:=by simp [World.frozen?,k1]
 have f1:V0.frozen? ⟨w.heap.size+1,1,none⟩=false:=by simp [World.frozen?,k1]
 have r0:V0.cell? ⟨w.heap.size+1,0,none⟩=some (.slice none 0 0):=by simp [World.cell?,k1]
 have r1:V0.cell? ⟨w.heap.size+1,1,none⟩=some (.slice none 0 0):=by simp [World.cell?,k1]
 have s1:w.heap.size+1<V0.heap.size:=by omega
 have s2:w.heap.size<V0.heap.size:=by omega
 clear k0 k1 b0;by_cases hg:Ru n cd AU sh lk;case neg=>
  have HC:=A3 (show Calls Tryz.prog 30 #[.agg #[.slice A n cap,.slice EA AU.length Cz,.int .i64 sh,.int .i64 lk]] V0 fun e w'=>∃r,e=.returned (.int .i64 r)∧(r != 0)=true∧∃y:Ext V0,y.w=w' from UJ.out.mono fun e w' ⟨⟨r,h1,h2⟩,h3⟩=>⟨r,h1,by simp;intro h;exact hg (h2.1 h),⟨w',h3⟩,rfl⟩);go_enter Tryz.func12,Tryz.ntmps12;go_upto_region 1 with fail;clear Bv;go_wp2_with (go_at_call 30;refine HC.out.mono ?_;rintro e w' ⟨r,rfl,dr,y,rfl⟩);refine Al (v:=.tuple #[.agg #[.slice none 0 0,.slice none 0 0],.int .i64 (-1),.int .i64 3]) fR rfl (.inl ⟨hg,rfl,?_⟩);refine CJ (CJ (Ext.below B0.out A0 y) ?_ _) ?_ _<;>simp
 have⟨HC,Ux⟩:=AL (show Calls Tryz.prog 30 #[.agg #[.slice A n cap,.slice EA AU.length Cz,.int .i64 sh,.int .i64 lk]] V0 fun e w'=>e=.returned (.int .i64 0)∧∃y:Ext V0,y.w=w' from UJ.out.mono fun e w' ⟨⟨r,h1,h2⟩,h3⟩=>⟨by rw [h1,h2.2 hg],⟨w',h3⟩,rfl⟩) hg;clear hg UJ;by_cases ht:task<0∨(AU.length:Int)≤task;case pos=>
  go_enter Tryz.func12,Tryz.ntmps12;go_upto_region 1 with fail;clear Bv;by_cases h0:task<0
  ·have d0:decide (task<0)=true:=AR h0
   go_wp2_with (go_at_call 30;refine HC.out.mono ?_;rintro e w' ⟨rfl,y,rfl⟩);refine Al (v:=.tuple #[.agg #[.slice none 0 0,.slice none 0 0],.int .i64 (-1),.int .i64 2]) fR rfl (.inr (.inl ⟨Ux.out,ht,rfl,?_⟩));refine CJ (CJ (Ext.below B0.out A0 y) ?_ _) ?_ _<;>simp
  ·have d0:decide (task<0)=false:=Aq h0
   have d1:decide ((AU.length:Int)≤task)=true:=AR A0;go_wp2_with (go_at_call 30;refine HC.out.mono ?_;rintro e w' ⟨rfl,y,rfl⟩);refine Al (v:=.tuple #[.agg #[.slice none 0 0,.slice none 0 0],.int .i64 (-1),.int .i64 2]) fR rfl (.inr (.inl ⟨Ux.out,ht,rfl,?_⟩));refine CJ (CJ (Ext.below B0.out A0 y) ?_ _) ?_ _<;>simp
 obtain⟨k,rfl⟩:∃k:Nat,task=(k:Int):=⟨task.toNat,by omega⟩;have hk:k<AU.length:=by omega
 have d0:decide ((k:Int)<0)=false:=Aq A0;have d1:decide ((AU.length:Int)≤(k:Int))=false:=Aq A0;obtain⟨e,b,off,he,rfl,hbl,c0,c1,c2,c3⟩:=QL.out.cells B0.out hk;have hem:=Bf he;obtain⟨g1,g2,g3⟩:=Ux.out.ch.bounds e hem;have hb2:b<V0.heap.size:=by omega
 have hcd:=Ux.out.code;clear ht QL;go_enter Tryz.func12,Tryz.ntmps12;go_upto_region 1 with fail;clear Bv;go_upto_region 6 with (go_at_call 30;refine HC.out.mono ?_;rintro e w' ⟨rfl,y,rfl⟩);obtain⟨W1,hW1⟩:=AA (y.w.alloc (.cells #[.string e.nm,.int .i64 e.st,.int .i64 e.en,.int .i64 e.da] 75));have bW:Below V0.heap.size V0 W1:=hW1▸y.h.alloc y.h.size _;have kW:W1.heap[y.w.heap.size]?=some (.cells #[.string e.nm,.int .i64 e.st,.int .i64 e.en,.int .i64 e.da] 75):=hW1▸Ai _ _;have sW:y.w.heap.size<W1.heap.size:=by rw [←hW1];simp
 have sy:=y.h.size;rw [hW1];obtain⟨q,hq⟩:=AA y.w.heap.size;rw [hq] at kW sW sy ⊢;have B1:=A3 (B0.out.trans (bW.mono A0));have IW:=A3 (xw (.slice A n cap) (.slice (some ⟨b,off,none⟩) AU.length Cz) sh lk e.nm e.st e.en e.da n cd W1 (HT.out.below B1.out) (OO.out.below B1.out) g1 g2 g3);have z0:W1.cell? ⟨w.heap.size,0,none⟩=some (.slice A n cap):=by rw [bW.cell (p:=⟨w.heap.size,0,none⟩) s2];exact y0
 have z1:W1.cell? ⟨w.heap.size,1,none⟩=some (.slice (some ⟨b,off,none⟩) AU.length Cz):=by rw [bW.cell (p:=⟨w.heap.size,1,none⟩) s2];exact y1
 have z2:W1.cell? ⟨w.heap.size,2,none⟩=some (.int .i64 sh):=by rw [bW.cell (p:=⟨w.heap.size,2,none⟩) s2];exact y2
 have z3:W1.cell? ⟨w.heap.size,3,none⟩=some (.int .i64 lk):=by rw [bW.cell (p:=⟨w.heap.size,3,none⟩) s2];exact y3
 have v0:W1.cell? ⟨q,0,none⟩=some (.string e.nm):=by simp [World.cell?,kW]
 have v1:W1.cell? ⟨q,1,none⟩=some (.int .i64 e.st):=by simp [World.cell?,kW]
 have v2:W1.cell? ⟨q,2,none⟩=some (.int .i64 e.en):=by simp [World.cell?,kW]
 have v3:W1.cell? ⟨q,3,none⟩=some (.int .i64 e.da):=by simp [World.cell?,kW]
 have kR:W1.heap[w.heap.size+1]?=some (.cells #[.slice none 0 0,.slice none 0 0] 31):=(bW.block _ s1).trans K1.out;have s3:w.heap.size+1<W1.heap.size:=by omega
 have⟨KW,KR⟩:=AL kW kR;clear hW1 hq kW kR bW y y0 y1 y2 y3 r0 r1 f0 f1 c0 c1 c2 c3 HC K0 K1 B0 d0 d1;go_upto_region 7 with (go_at_call 31;refine IW.out.mono ?_;rintro e' W2 ⟨D,bad,fb,rfl,hfb,hRI,hIm,Q9⟩);have Uk:=(Q9.block _ s3).trans KR.out;have kW2:=(Q9.block _ sW).trans KW.out;have r0:W2.cell? ⟨w.heap.size+1,0,none⟩=some (.slice none 0 0):=by simp [World.cell?,Uk]
 have r1:W2.cell? ⟨w.heap.size+1,1,none⟩=some (.slice none 0 0):=by simp [World.cell?,Uk]
 have f0:W2.frozen? ⟨w.heap.size+1,0,none⟩=false:=by simp [World.frozen?,Uk]
 have f1:W2.frozen? ⟨w.heap.size+1,1,none⟩=false:=by simp [World.frozen?,Uk]
 have⟨B2,LN⟩:=AL (B1.out.trans (Q9.mono A0)) hRI;have sW2:=Q9.size;have⟨O4,Vy,KR2⟩:=B8 hIm kW2 Uk;clear hRI z0 z1 z2 z3 v0 v1 v2 v3 KW KR B1 IW Q9 hIm Uk kW2;rcases Classical.em (bad = -1) with hbd|hbd;case inr=>
  have hbp:0≤bad:=by
   rcases LN.out.b with h|h
   ·exact absurd h.1 hbd
   ·have:=(LN.out.dr bad h.1).range _ _ _ g2
    omega
  go_wp2_with fail;refine Al (v:=.tuple #[.agg #[.slice none 0 0,.slice none 0 0],.int .i64 bad,.int .i64 10]) fR rfl (.inr (.inr (.inl ⟨Ux.out,k,e,D,bad,rfl,he,hbp,LN.out,rfl,?_⟩)));refine CJ (CJ B2.out ?_ _) ?_ _<;>simp
 subst hbd;have hcD:∀a∈D,(0≤a∧a≤1000000)∧(-1000000≤(Ak cd a).AG∧(Ak cd a).AG≤1000000):=fun a ha=>by
  have h1:=(LN.out.dr a ha).range _ _ _ g2;have h2:=mZ (cd a.toNat) (OO.out.wd a.toNat A0).1;unfold Ak;omega
 have⟨G0,HCD⟩:=AL (aqS e.nm e.st e.en e.da fb (Ak cd) D W2 A0 hcD O4.out) hcD;have v0:W2.cell? ⟨q,0,none⟩=some (.string e.nm):=by simp [World.cell?,Vy.out]
 have v1:W2.cell? ⟨q,1,none⟩=some (.int .i64 e.st):=by simp [World.cell?,Vy.out]
 have v2:W2.cell? ⟨q,2,none⟩=some (.int .i64 e.en):=by simp [World.cell?,Vy.out]
 have v3:W2.cell? ⟨q,3,none⟩=some (.int .i64 e.da):=by simp [World.cell?,Vy.out]
 clear r0 r1 f0 f1 hcD;go_upto_region 10 with (go_at_call 32;refine G0.out.mono ?_;rintro e' W3 ⟨mb,mg,rfl,hmb,hMI,hMm,hb3⟩);have mk:=fun W:World=>(show (Instr.makeMap 101 none).run Tryz.prog W=.ok (.map (some W.heap.size)) (W.alloc (.map #[] 0)) from rfl);obtain⟨V,hV⟩:=AA ((W3.alloc (.cells #[.slice none 0 0,.slice none 0 0] 31)).alloc (.map #[] 0));have sV:W3.heap.size+2=V.heap.size:=by rw [←hV];simp
 have bV:Below W3.heap.size W3 V:=hV▸((AP _ _).alloc (AH _) _).alloc AO _;have kg:V.heap[W3.heap.size]?=some (.cells #[.slice none 0 0,.slice none 0 0] 31):=by rw [←hV,Bb _ _ AO];exact Ai _ _
 have kn:Im V (W3.heap.size+1) (LU []):=by
  rw [←hV,yT];have:=Im.made (W3.alloc (.cells #[.slice none 0 0,.slice none 0 0] 31))
  rwa [El] at this
 have sW3:=hb3.size;have kW3:V.heap[q]?=_:=(bV.block _ A0).trans ((hb3.block _ A0).trans Vy.out);have kR3:V.heap[w.heap.size+1]?=_:=(bV.block _ A0).trans ((hb3.block _ A0).trans KR2.out);have hFl:=O4.out.lt;have fk:Im V fb (G5 (Ak cd) D):=O4.out.keep ((bV.block _ A0).trans (hb3.block _ hFl));have hMl:=hMm.lt;have hM3:Im V mb mg:=hMm.keep (bV.block _ hMl);have hB3:Below w.heap.size w V:=B2.out.trans ((hb3.mono (by have:=B2.out.size;omega)).trans (bV.mono (by have:=B2.out.size;omega)));have u1:V.cell? ⟨q,1,none⟩=some (.int .i64 e.st):=by simp [World.cell?,kW3]
 have⟨KW3,KR3,HF3,HM3,B3,FW,HMI⟩:=Yi kW3 kR3 fk hM3 hB3 (show BM V V W3.heap.size (W3.heap.size+1) (.slice none 0 0) (blk (Ak cd) e.st D 0) from⟨by omega,by omega,by omega,rfl,rfl,rfl,AH _,fun _ _ _ _=>rfl,kg,kn,JV _ _ _ _⟩) hMI;have v1':W3.cell? ⟨q,1,none⟩=some (.int .i64 e.st):=by rw [hb3.cell (p:=⟨q,1,none⟩) (by show q<_;omega)];exact v1
 clear kW3 kR3 fk hM3 hB3 kg kn bV hMm hMI hb3 v0 v1 v2 v3 G0 Vy KR2 O4;go_upto_region 13 with fail;clear hV;obtain⟨gb,hgb⟩:=AA W3.heap.size;rw [hgb] at FW sV sW3 ⊢;obtain⟨nb,hnb⟩:=AA (gb+1);rw [hnb] at FW ⊢;have hfg:fb<gb:=by omega
 have hmg:mb<gb:=by omega
 obtain⟨i1,hi1,hy0,hy1,hy2⟩:=D5 apN;have hqg:q<gb:=by omega
 have hwg:w.heap.size+1<gb:=by omega
 have qB:e.st∈D:=by rcases LN.out.s with h|h;exact h;cases h
 clear u1 v1' mk hk hbl hb2 sy sW s3 sW2 hfb hmb hFl hMl sW3 hgb hc1 hc2 he1 he2 h63 s0 s1 s2;go_loopw [13,14,15] (fun a13 a14 a15 wr=>∃(m:Nat) (bv:Value),a13=.int .i64 (e.st+(m:Int))∧e.st+(m:Int)≤e.en∧BM V wr gb nb bv (blk (Ak cd) e.st D m)) (fun a13 _ _ _=>(e.en - intOf a13).toNat);case atStart=>exact⟨0,_,by simp,by simp;omega,FW.out⟩
 case round=>
  obtain⟨m,bv,rfl,hme,hM⟩:=hrel;have HM:=A3 hM;clear hM FW;have kq:=(HM.out.blk q A0 A0 A0).trans KW3.out;have v2:wr.cell? ⟨q,2,none⟩=some (.int .i64 e.en):=by simp [World.cell?,kq]
  have hF:=HM.out.im HF3.out A0 A0;have Yv:=HM.out.im HM3.out A0 A0;have hBI:=YM (Ak cd) e.st D m;have Gk:=A3 hBI;have hbl:=iu (Ak cd) e.st D m;clear kq hBI;by_cases hlt:e.st+(m:Int)<e.en
  ·-- arq
   have dl:decide (e.st+(m:Int)<e.en)=true:=AR hlt;have wr1:IntKind.i64.wrap (e.st+(m:Int)+1)=e.st+(m:Int)+1:=GN _ A0;have hm4:m≤4096:=by omega
   by_cases hD:e.st+(m:Int)∈D
   ·have l1:=hF.Sm (P:=Tryz.prog) (kt:=3) (t:=96) (e:=67) CS Ut (k:=e.st+(m:Int)) (v:=(Ak cd (e.st+m)).val) (by unfold G5;rw [AE hD]) true
    obtain⟨i,hi⟩:=AA (Ak cd (e.st+m));rw [hi] at l1;simp only [↓reduceIte,Ins.val,kv] at l1;obtain⟨X1,Px⟩:=AA (wr.alloc (.cells #[.int .u8 i.op,.int .i64 i.a,.int .i64 i.b,.int .i64 i.c,.int .i64 i.AG] 67));have b1:Below wr.heap.size wr X1:=Px▸(AP _ _).alloc (AH _) _;have Jb:=A3 (HM.out.below b1);have hM1:Im X1 mb mg:=Yv.below b1 Yv.lt;clear hi hF Yv;by_cases hl:EN (Ak cd) e.st D (e.st+m)=true
    ·have l2:=hM1.Sm (P:=Tryz.prog) (kt:=3) (t:=99) (e:=4) CS MN (k:=e.st+(m:Int)) (v:=.bool true) (by
      rcases HMI.out.lead (e.st+m) with h|h
      ·exact h.2
      ·exact absurd ((SZ _ _ _ _).1 hl) h.1) false
     simp only [MZ,↓reduceIte,kv] at l2;have Ns:=A3 (show blk (Ak cd) e.st D (m+1)=blk (Ak cd) e.st D m++[(e.st+m,e.st+m+1)] by rw [blk,AE hD,AE hl]);obtain⟨L,hL⟩:=AA (blk (Ak cd) e.st D m);rw [hL] at Ns Jb Gk hbl HM;have Ke:=A3 (show ∀p∈L,p.1≠e.st+m from fun p hp=>by have:=Gk.out.lo p hp;omega);clear hL hl hD HM hM1;go_upto_region 18 with fail;clear l1 l2 Px;obtain⟨bA,Fp,rfl⟩:∃bA Fp,bv=.slice bA L.length Fp:=by
      rcases Jb.out.row.2 with⟨h,h'⟩|⟨g,cap',cur,h,_⟩
      ·exact⟨_,_,by rw [h,h']⟩
      ·exact⟨_,_,h⟩
     have t0:X1.cell? ⟨gb,0,none⟩=some (.slice bA L.length Fp):=by simp [World.cell?,Jb.out.g]
     obtain⟨X2,l3,m3,o1,o2,o3,o4,o5⟩:=Jb.out.num.put (P:=Tryz.prog) (kt:=3) (t:=101) (e:=3) CS Tryz.underlying101 (k:=e.st+(m:Int)) (J1 A0 A0) (.int .i64 (L.length:Int));simp only [kv] at l3;rw [yL L (e.st+m) 0 Ke.out] at m3;have o7:=(Jb.out.row).kept (gJ o1 o2 o3 o4 o5) (.inr (fun e'=>by have:=Jb.out.Xx e';have:=Jb.out.nV;omega));have PN:gb≠nb:=by omega
     have g2':=(o5 gb PN).trans Jb.out.g;have t1:X2.cell? ⟨gb,0,none⟩=some (.slice bA L.length Fp):=by simp [World.cell?,g2']
     have t2:X2.frozen? ⟨gb,0,none⟩=false:=by simp [World.frozen?,g2']
     have⟨Dz,H6⟩:=AL o7 (Dt m3 (Dt o1 (Dt o2 (Dt o3 (Dt o4 o5)))));have JI:gb<X2.heap.size:=by have:=Jb.out.sz;omega
     have Jr:V.heap.size≤X2.heap.size:=by have:=Jb.out.sz;omega
     have Ks:=A3 (show some gb≠Value.ownBlock (.slice bA L.length Fp) from fun e'=>by have:=Jb.out.Xx e'.symm;omega);clear o7 g2' m3 o1 o2 o3 o4 o5 PN;go_upto_region 20 with (at_builtin;refine Kf _ rfl (.tmp 79) (.tmp 82) 28 rfl V.heap.size 78 i1 _ 3 40 Tryz.underlying28 hi1 hy0 hy1 hy2 rfl AK (.slice bA L.length Fp) _ _ rfl (Dz.out.alloc _) ⟨X2.heap.size,0,none⟩ 1 1 [.int .i64 (e.st+m),.int .i64 0,.slice none 0 0] rfl rfl (apU _ _ _ _ _) BS Bc A0 Hz ?_;intro v' W' hown' hgrow _ Ce;obtain⟨g',cap',rfl⟩:=GI hown';have hc1:=hgrow.cell (a:=⟨gb,0,none⟩) (v:=.slice bA L.length Fp) GK Ks.out;have hf1:W'.frozen? ⟨gb,0,none⟩=false:=(Pb (hgrow.block gb Cl Ks.out)).trans GK);have Zc:=Jb.out.app (a:=e.st+m) H6.out.1 H6.out.2.1 H6.out.2.2.1 H6.out.2.2.2.1 H6.out.2.2.2.2.1 H6.out.2.2.2.2.2 hgrow (by rw [eW];exact hown');obtain⟨X4,hX4⟩:=AA (W'.setCell ⟨gb,0,none⟩ (.slice (some ⟨g',0,none⟩) (L.length+1) cap'));rw [hX4] at Zc ⊢;have hrw:=Zc.row;rw [show (L++[(e.st+(m:Int),(0:Int))]).length=L.length+1 by simp] at hrw;have t3:X4.cell? ⟨gb,0,none⟩=some (.slice (some ⟨g',0,none⟩) (L.length+1) cap'):=by simp [World.cell?,Zc.g]
     have t4:X4.cell? ⟨g',L.length*3+1,none⟩=some (.int .i64 0):=by rw [hrw.cellAt _ A0];exact pT L _ _
     have t5:X4.frozen? ⟨g',L.length*3+1,none⟩=false:=hrw.frozenAt _;have Yw:L.length+1≤cap':=by
      rcases hrw.2 with⟨h,_⟩|⟨_,_,_,h,_,_,h2,_⟩
      ·cases h
      ·cases h;exact h2
     have OE:=A3 Zc;clear hX4 Zc hrw hc1 hf1 Ce hgrow hown' t0 t1 t2 l3 H6 Dz Ks JI Jr;go_wp2_with fail;go_roundw;case rel=>
      refine⟨m+1,.slice (some ⟨g',0,none⟩) (L.length+1) cap',by rw [show ((m+1:Nat):Int)=(m:Int)+1 by omega,Int.add_assoc],by omega,?_⟩;rw [Ns.out];exact OE.out.Mi
     case measure=>exact Aa
    ·have l2:=hM1.Wb (P:=Tryz.prog) (kt:=3) (t:=99) (e:=4) CS MN (aoM X1) (k:=e.st+(m:Int)) (J1 A0 A0) (by
      rcases HMI.out.lead (e.st+m) with h|h
      ·exact absurd ((SZ _ _ _ _).2 h.1) hl
      ·exact h.2) false
     simp only [MZ,↓reduceIte,kv] at l2;have hm0:0<m:=by
      rcases TC m with h|h
      ·subst h
       exact absurd (by simpa using jh (Ak cd) e.st D) hl
      ·exact h
     obtain⟨M,pa,pb,hL⟩:=mX _ (Gk.out.ne qB hm0);have Ns:=A3 (show blk (Ak cd) e.st D (m+1)=M++[(pa,e.st+m+1)] by rw [blk,AE hD,A9 hl,hL,ZV]);rw [hL] at Jb hbl;clear hL hl hD HM hM1 Gk;have hrw:=Jb.out.row;rw [show (M++[(pa,pb)]).length=M.length+1 by simp] at hrw;obtain⟨g',cap',rfl⟩:=GI hrw;have t3:X1.cell? ⟨gb,0,none⟩=some (.slice (some ⟨g',0,none⟩) (M.length+1) cap'):=by simp [World.cell?,Jb.out.g]
     have t4:X1.cell? ⟨g',M.length*3+1,none⟩=some (.int .i64 pb):=by rw [hrw.cellAt _ A0];exact pT M _ _
     have t5:X1.frozen? ⟨g',M.length*3+1,none⟩=false:=hrw.frozenAt _;have Yw:M.length+1≤cap':=by
      rcases hrw.2 with⟨h,_⟩|⟨_,_,_,h,_,_,h2,_⟩
      ·cases h
      ·cases h;exact h2
     have vV:M.length+1≤m:=by simpa using hbl
     clear hrw hbl;go_upto_region 20 with fail;clear l1 l2 Px;go_wp2_with fail;go_roundw;case rel=>
      refine⟨m+1,.slice (some ⟨g',0,none⟩) (M.length+1) cap',by rw [show ((m+1:Nat):Int)=(m:Int)+1 by omega,Int.add_assoc],by omega,?_⟩;rw [Ns.out];exact Jb.out.Mi
     case measure=>exact Aa
   ·have l1:=hF.Wb (P:=Tryz.prog) (kt:=3) (t:=96) (e:=67) CS Ut (uV wr) (k:=e.st+(m:Int)) (J1 A0 A0) (by unfold G5;rw [A9 hD]) true
    simp only [↓reduceIte,kv] at l1;have Ns:=A3 (show blk (Ak cd) e.st D (m+1)=blk (Ak cd) e.st D m by rw [blk,A9 hD]);clear hD hF Yv;go_wp2_with fail;go_roundw;case rel=>
     refine⟨m+1,bv,by rw [show ((m+1:Nat):Int)=(m:Int)+1 by omega,Int.add_assoc],by omega,?_⟩;rw [Ns.out];exact HM.out.below ((AP _ _).alloc (AH _) _)
    case measure=>exact Aa
  ·-- arc
   have dl:decide (e.st+(m:Int)<e.en)=false:=Aq hlt;have HMN:=A3 (show m=(e.en - e.st).toNat by omega);have hm0:0<m:=by omega
   clear hF Yv;obtain⟨L,hL⟩:=AA (blk (Ak cd) e.st D m);rw [hL] at HM hbl Gk;have G0:=A3 hL;have hn0:0<L.length:=Ic.2 (Gk.out.ne qB hm0);have hL4:L.length≤4096:=by omega
   obtain⟨g,B9,rfl⟩:∃g B9,bv=.slice (some ⟨g,0,none⟩) L.length B9:=by
    rcases HM.out.row.2 with⟨h,h'⟩|⟨g,cap',cur,h,_⟩
    ·omega
    ·exact⟨_,_,h⟩
   have t0:wr.cell? ⟨gb,0,none⟩=some (.slice (some ⟨g,0,none⟩) L.length B9):=by simp [World.cell?,HM.out.g]
   obtain⟨i2,hi2,hs0,hs1,hs2⟩:=D5 jM;obtain⟨U1,lm,CB,gr1⟩:=O7 (P:=Tryz.prog) wr V.heap.size 29 38 i2 (.slice none 0 0) 1 aJ hi2 hs0 hs1 .i64 .i64 L.length Y8 Bc HM.out.sz;rw [Mk,show (Value.slice none 0 0).cells=#[Value.slice none 0 0] from rfl,Ni] at CB;have gU:U1.heap[gb]?=_:=(gr1.block gb (by have:=HM.out.sz;have:=HM.out.gV;omega) AO).trans HM.out.g;have u0:U1.cell? ⟨gb,0,none⟩=some (.slice (some ⟨g,0,none⟩) L.length B9):=by simp [World.cell?,gU]
   have u1:U1.cell? ⟨gb,1,none⟩=some (.slice none 0 0):=by simp [World.cell?,gU]
   have u2:U1.frozen? ⟨gb,1,none⟩=false:=by simp [World.frozen?,gU]
   clear hL hlt hme hbl;go_upto_region 23 with fail;obtain⟨pg,X9⟩:=AA wr.heap.size;rw [X9] at CB ⊢;obtain⟨U2,Hu⟩:=AA (U1.setCell ⟨gb,1,none⟩ (.slice (some ⟨pg,0,none⟩) L.length L.length));have bN:BN V U2 gb nb g B9 pg L (fun _=>.slice none 0 0) (Ex (Ak cd) L 0 []):=by
    have hgr:=HM.out.Xx (j:=g) rfl;have Fz:=CB.lt pg rfl;have SH:=HM.out.gV;have Nw:=HM.out.nV;have sm:∀k,k<V.heap.size→k≠gb→U2.heap[k]?=wr.heap[k]?:=fun k h1 h2=>by
     rw [←Hu,BL _ _ _ _ h2];exact gr1.block k A0 AO
    refine⟨SH,Nw,HM.out.gn,?_,?_,?_,?_,fun k h1 h2 h3=>(sm k h1 h2).trans (HM.out.blk k h1 h2 h3),?_,HM.out.num.keep (sm nb Nw (Ds HM.out.gn)),?_,?_,fun i hi=>?_,fun i j hi hj _ q hq=>by cases hq⟩
    ·rw [←Hu];exact gr1.os.trans HM.out.os
    ·rw [←Hu];exact gr1.tape.trans HM.out.tape
    ·rw [←Hu];exact gr1.output.trans HM.out.output
    ·rw [←Hu];simp;omega
    ·rw [←Hu,Ej U1 gb 1 _ _ _ gU]
     rfl
    ·rw [ar6,← Hu]
     exact OU (HM.out.row.kept gr1 (.inr (by simp [Value.ownBlock]))) fl _
    ·rw [←Hu]
     have e:((List.range L.length).map fun i=>(fun _=>Value.slice none 0 0) (L.length+i))=List.replicate L.length (Value.slice none 0 0):=by
      apply JX;intro q;by_cases hq:q<L.length
      ·simp [hq]
      ·simp [hq]
     rw [e];exact OU CB fl _
    ·rw [apk]
     exact JV _ _ _ _
   rw [Hu];have Wc:=A3 bN;have HCL:=A3 (show ∀k,k<L.length→(Nd L k∈D∧Nd L k+1=(L.getD k (0,0)).2)∧∀s∈Ch (Ak cd (Nd L k)) (Nd L k),(∃p∈L,p.1=s)∧O2 s from fun k hk=>by
    have hp:L[k]∈L:=Cn hk;have e1:L.getD k (0,0)=L[k]:=by simp [List.getD,Aj hk]
    have hla:=Gk.out.last _ hp;have hlo:=Gk.out.lo _ hp;unfold Nd;rw [e1];refine⟨⟨hla,by omega⟩,fun s hs=>?_⟩;have hnb:¬MV (Ak cd) e.st e.en (L[k].2 - 1):=by
     rcases LN.out.b with h|h
     ·exact h.2 _ hla
     ·have:=(LN.out.dr _ h.1).range _ _ _ g2
      omega
    have hin:e.st≤s∧s<e.en:=gQ fun h=>hnb ⟨s,hs,h⟩;have Pj:s∈D:=by
     rcases LN.out.cl _ hla s hs hin.1 hin.2 with h|h
     ·exact h
     ·cases h
    refine⟨?_,J1 A0 A0⟩;have hmm:=HMN.out;refine Gk.out.num s hin.1 A0 Pj ?_;by_cases hbr:DF (Ak cd (L[k].2 - 1)).op=true
    ·rw [SZ]
     refine .inr ⟨_,hla,?_⟩;unfold Gx;rw [AE hbr];exact hs
    ·have:s=L[k].2:=by
      unfold Ch at hs;unfold DF at hbr;split at hs
      ·cases hs
      ·split at hs
       ·simp_all
       ·split at hs
        ·rename_i h;rcases h with h|h<;>simp [h] at hbr
        ·simp at hs;omega
     rw [this] at Pj hin ⊢
     exact Gk.out.cl _ hp A0 Pj)
   clear Hu gU u0 u1 u2 lm CB gr1 bN HM Gk t0 X9;go_loopw [16,17,19,20,103] (fun a16 a17 a19 a20 kL wr=>∃(k:Nat) (val:Nat→Value),k≤L.length∧kL=.int .i64 (k:Int)∧BN V wr gb nb g B9 pg L val (Ex (Ak cd) L k [])) (fun _ _ _ _ kL _=>L.length - (intOf kL).toNat);case atStart=>exact⟨0,_,Ck _,rfl,Wc.out⟩
   case round=>
    obtain⟨k',val,hk',rfl,hN⟩:=hrel;clear Wc;have HN:=A3 hN;clear hN;have t0:wr.cell? ⟨gb,0,none⟩=some (.slice (some ⟨g,0,none⟩) L.length B9):=by simp [World.cell?,HN.out.gg]
    have t1:wr.cell? ⟨gb,1,none⟩=some (.slice (some ⟨pg,0,none⟩) L.length L.length):=by simp [World.cell?,HN.out.gg]
    have hrg:=HN.out.rg;by_cases hlt:k'<L.length
    ·have dl:decide ((k':Int)<(L.length:Int))=true:=by simpa using hlt
     obtain⟨⟨bH,hlt2⟩,hsu⟩:=HCL.out k' hlt;obtain⟨p1,p2⟩:=HCD.out _ bH;obtain⟨la,hla⟩:=AA (Nd L k');have Cw:=A3 (show IU (Ak cd) L k'=Hf L (Ch (Ak cd la) la) by unfold IU;rw [hla]);rw [hla] at bH hlt2 hsu p1 p2;have bt:wr.cell? ⟨g,k'*3+1,none⟩=some (.int .i64 (la+1)):=by rw [HN.out.Mt.cellAt _ A0,Qy L val hlt A0,hlt2];rfl
     have hF:=HN.out.im HF3.out A0 A0;obtain⟨i,hi⟩:=AA (Ak cd la);have l1:∀y:Ext wr,(Instr.lookup 96 (.map (some fb)) (.int .i64 la) false).run Tryz.prog y.w=.ok (.agg #[.int .u8 i.op,.int .i64 i.a,.int .i64 i.b,.int .i64 i.c,.int .i64 i.AG]) y.w:=fun y=>by
      have:=(hF.ext y).Sm (P:=Tryz.prog) (kt:=3) (t:=96) (e:=67) CS Ut (k:=la) (v:=i.val) (by unfold G5;rw [AE bH,hi]) false;simpa only [MZ,↓reduceIte,Ins.val,kv] using this
     rw [hi] at Cw hsu p2;have w1:IntKind.i64.wrap (la+1 - 1)=la:=by rw [GN _ A0];omega
     have⟨Mp,XJ⟩:=AL (fun W:World=>mA i la W p1.1 p1.2 p2.1 p2.2) hsu;clear hi bH hlt2 hla hF hsu p2;obtain⟨hrg1,hrg2,hrg3⟩:=hrg;have sg:g<wr.heap.size:=hrg1.2;go_upto_region 26 with fail;refine zG 12 14 _ _ rfl rfl rfl A6 A6 ?_;simp only [Act.put,AW,Ab,AY,Ew,List.take_zero,Er,List.drop_zero,Nat.reduceSub];repeat (go_big_quiet_step (fail))
     refine Ba ?_;rintro _ ⟨y,rfl⟩;go_wp2_with (go_at_call 33;refine (Mp.out _).mono ?_;rintro e' W4 ⟨⟨v,rfl,⟨SA,Hq,rfl,sc1,sc2,sc3⟩,sc4⟩,hb4⟩);refine Yn ?_;go_upto_region 27 with fail;obtain⟨S,hS⟩:=AA (Ch i la);have hS2:S.length≤2:=hS▸eB _ _;rw [hS] at Cw XJ sc1 sc3 sc4 ⊢;have hy:=y.h.size;have⟨HN4,I4⟩:=AL ((HN.out.below y.h).below hb4) (show Ints W4 (.slice SA S.length Hq) S from⟨SA,Hq,rfl,sc1,sc2,sc3⟩);have DJ:=A3 (show ∀q,(Value.slice SA S.length Hq).ownBlock=some q→q≠g∧q≠pg∧∀i,i<2*L.length→(val i).ownBlock≠some q from fun q hq=>by
      have h1:=sc4 q hq;refine⟨by omega,by omega,fun i hi h2=>?_⟩;have:=((HN.out.own i hi).lt q h2).2
      omega)
     clear hS sc1 sc2 sc3 sc4 hb4 hy y HN t0 t1 bt l1 w1 Mp sg hrg1 hrg2 hrg3 p1;obtain⟨wo,rfl⟩:∃wo:World,wo=wr:=⟨_,rfl⟩;go_loopw [19,20,124] (fun a19 a20 a124 wr=>∃(j:Nat) (val:Nat→Value),j≤S.length∧a124=.int .i64 (j:Int)∧BN V wr gb nb g B9 pg L val (Ex (Ak cd) L k' (Hf L (S.take j)))∧Ints wr (.slice SA S.length Hq) S∧∀q,(Value.slice SA S.length Hq).ownBlock=some q→q≠g∧q≠pg∧∀i,i<2*L.length→(val i).ownBlock≠some q) (fun _ _ a124 _=>S.length - (intOf a124).toNat);case atStart=>exact⟨0,_,Ck _,rfl,HN4.out,I4.out,DJ.out⟩
     case round=>
      clear HN4 I4 DJ val;obtain⟨j,val,hj,rfl,hN,hI,hD'⟩:=hrel;have⟨HN,HI,HD⟩:=B8 hN hI hD';clear hN hI hD';by_cases hjl:j<S.length
      ·obtain⟨A',EI,hv,i1',i2',i3'⟩:=HI.out
       cases hv;obtain⟨sb,so,rfl,Ln,hsc⟩:=i3' A0;obtain⟨s,hs⟩:=AA (S[j]);have x1:wr.cell? ⟨sb,so+j,none⟩=some (.int .i64 s):=by rw [hsc j hjl,← hs];simp [List.getD,Aj hjl]
       have hS?:S[j]?=some s:=by rw [Aj hjl,hs]
       obtain⟨tJ,hkw⟩:=XJ.out s (Bf hS?);obtain⟨n1,n2,n3⟩:=iE tJ;obtain⟨p,hp⟩:=AA (idx L s);have HNT:=A3 (yt L S j s hS?);rw [hp] at n1 n2 HNT;have l2:=HN.out.num.Sm (P:=Tryz.prog) (kt:=3) (t:=101) (e:=3) CS Tryz.underlying101 (k:=s) (v:=.int .i64 (p:Int)) n1 false;simp only [MZ,↓reduceIte,kv] at l2;have dl2:decide ((j:Int)<(S.length:Int))=true:=by simpa using hjl
       obtain⟨l,hl⟩:=AA (Hf L (S.take j));have Hs:l.length≤2:=by
        have:=sA L (S.take j);rw [hl] at this;simp at this;omega
       rw [hl] at HN HNT;have bn:wr.cell? ⟨g,k'*3+2,none⟩=some (val k'):=by rw [HN.out.Mt.cellAt _ A0,Qy L val hlt A0];rfl
       have bf:wr.frozen? ⟨g,k'*3+2,none⟩=false:=HN.out.Mt.frozenAt _;have hok:=HN.out.own k' A0;rw [mH _ _ _ _ hlt] at hok;have N2:=A3 (amq (val k') l (p:Int) wr (MF hok));unfold maxLen at i2';obtain⟨vA,CD,hval⟩:∃vA CD,val k'=.slice vA l.length CD:=by
        rcases hok.2 with⟨h,h'⟩|⟨g,cap',cur,h,_⟩
        ·exact⟨_,_,by rw [h,h']⟩
        ·exact⟨_,_,h⟩
       have⟨Em,C7⟩:=AL hok hval;rw [hval] at bn N2;clear hsc i3' hs tJ n1 n3 hp hl hkw hok hval hS?;by_cases hin:(p:Int)∈l
       ·have HAD:=A3 (show Jj l (p:Int)=l by unfold Jj;rw [AE hin])
        rw [AR hin] at N2;clear hin;go_wp2_with (go_at_call 34;refine N2.out.mono ?_;rintro e' w' ⟨rfl,rfl⟩);go_roundw;case rel=>
         refine⟨j+1,val,by omega,by go_num,?_,HI.out,HD.out⟩;rw [HNT.out,HAD.out];exact HN.out
        case measure=>exact Aa
       ·have HAD:=A3 (show Jj l (p:Int)=l++[(p:Int)] by unfold Jj;rw [A9 hin])
        have Ei:=A3 hin;rw [Aq hin] at N2;clear hin;obtain⟨iI,E5,E7,DT,Dw⟩:=D5 NQ;have hsz:=HN.out.rg;have HNg:=A3 (show some g≠Value.ownBlock (.slice vA l.length CD) from fun e'=>by
         rw [←C7.out] at e'
         exact FE Em.out HN.out.Mt AK g e'.symm rfl)
        have hg0:g<wr.heap.size:=hsz.1.2;have hOA:wr.ownsRow V.heap.size 3 1 (.slice vA l.length CD) l.length (Av l):=by rw [←C7.out];exact Em.out
        have HOA:=A3 hOA;have hVw:=HN.out.sz;clear hOA hsz;go_upto_region 32 with (first|(go_at_call 34;refine N2.out.mono ?_;rintro e' w' ⟨rfl,rfl⟩)|(at_builtin;refine Kf _ rfl (.tmp 142) (.tmp 144) 38 rfl V.heap.size 3 iI (.int .i64 0) 1 8 Ey E5 E7 DT Dw rfl AK (.slice vA l.length CD) _ _ rfl (HOA.out.alloc _) ⟨wr.heap.size,0,none⟩ 1 1 [.int .i64 (p:Int)] rfl rfl (DV _ _ _) BS Bc A0 Hz ?_;intro v' W' hown' hgrow _ Ce;obtain⟨g',cap',rfl⟩:=GI hown';have hc1:=hgrow.cell (a:=⟨g,k'*3+2,none⟩) (v:=.slice vA l.length CD) GK HNg.out;have hf1:W'.frozen? ⟨g,k'*3+2,none⟩=false:=(Pb (hgrow.block g Cl HNg.out)).trans GK));have Jz:=HN.out.app (x:=0) (i:=k') (y:=(p:Int)) A0 ((AP wr.heap.size wr).alloc (AH _) (.cells #[.int .i64 (p:Int)] 3)) (by rw [C7.out];exact hgrow) (by rw [mH _ _ _ _ hlt];simpa [Av] using hown') (by rw [C7.out];exact Ce) g (k'*3+2) (.inl ⟨hlt,rfl,rfl⟩);rw [mH _ _ _ _ hlt] at Jz;have hIX:=((HI.out.below ((AP wr.heap.size wr).alloc (AH _) (.cells #[.int .i64 (p:Int)] 3))).grown hgrow (fun q hq hq2=>(HD.out q hq).2.2 k' A0 (by rw [C7.out];exact hq2))).grown (Hh W' g (k'*3+2) (.slice (some ⟨g',0,none⟩) (l.length+1) cap')) (fun q hq hq2=>(HD.out q hq).1 (by simpa using hq2.symm));have hDX:∀q,(Value.slice (some ⟨sb,so,none⟩) S.length Hq).ownBlock=some q→q≠g∧q≠pg∧∀i,i<2*L.length→(upd val k' (.slice (some ⟨g',0,none⟩) (l.length+1) cap') i).ownBlock≠some q:=fun q hq=>by
         obtain⟨d1,d2,d3⟩:=HD.out q hq;refine⟨d1,d2,fun i hi=>?_⟩;unfold upd;split
         ·rcases Ce with h|h
          ·rw [h,← C7.out];exact d3 k' A0
          ·rw [h,El]
           intro e';simp [Value.ownBlock] at hq e';omega
         ·exact d3 i hi
        obtain⟨X,hX⟩:=AA (W'.setCell ⟨g,k'*3+2,none⟩ (.slice (some ⟨g',0,none⟩) (l.length+1) cap'));rw [hX] at Jz hIX ⊢;obtain⟨Kb,wD⟩:=AA (upd val k' (.slice (some ⟨g',0,none⟩) (l.length+1) cap'));rw [wD] at Jz hDX;have hop:=Jz.own (L.length+p) A0;have hpl:upd (Ex (Ak cd) L k' l) k' (l++[(p:Int)]) (L.length+p)=Ex (Ak cd) L k' l (L.length+p):=by unfold upd;rw [A9 A0]
        rw [hpl] at hop;have⟨I7,ET⟩:=AL (aqP (Ak cd) L k' p l hlt n2 Ei.out) hpl;obtain⟨pl,jP⟩:=AA (Ex (Ak cd) L k' l (L.length+p));have an0:pl.length≤5000:=by
         rw [←jP];unfold Ex;rw [A9 A0];have h1:=ym (Ak cd) L k' (L.length+p - L.length);have h2:(if ((L.length+p - L.length:Nat):Int)∈l then [(k':Int)] else []).length≤1:=by split<;>simp
         rw [FO];omega
        rw [jP] at hop I7 ET;obtain⟨pA,B7,hvp⟩:∃pA B7,Kb (L.length+p)=.slice pA pl.length B7:=by
         rcases hop.2 with⟨h,h'⟩|⟨g,cap',cur,h,_⟩
         ·exact⟨_,_,by rw [h,h']⟩
         ·exact⟨_,_,h⟩
        have SB:=A3 hvp;have q0:X.cell? ⟨gb,1,none⟩=some (.slice (some ⟨pg,0,none⟩) L.length L.length):=by simp [World.cell?,Jz.gg]
        have q1:X.cell? ⟨pg,p,none⟩=some (.slice pA pl.length B7):=by rw [Jz.Bk.cellAt _ A0,Cr,Ev n2,← hvp];rfl
        have q2:X.frozen? ⟨pg,p,none⟩=false:=Jz.Bk.frozenAt _;have WR:=A3 (show some pg≠Value.ownBlock (.slice pA pl.length B7) from fun e'=>by
         rw [←hvp] at e'
         exact FE hop Jz.Bk AK pg e'.symm rfl)
        have ZY:=A3 (show some gb≠Value.ownBlock (.slice pA pl.length B7) from fun e'=>by
         rw [←hvp] at e';have:=(hop.lt gb e'.symm).1;have:=Jz.gV
         omega)
        rw [hvp] at hop;have⟨Fq,Co,YO,HDX⟩:=Bz hop Jz hIX hDX;have arZ:pg<X.heap.size:=Jz.rg.2.1.2;have arN:gb<X.heap.size:=by have:=Jz.sz;have:=Jz.gV;omega
        have VN:=Jz.sz;clear hX Jz hIX hDX hop hvp wD hpl jP hc1 hf1 Ce hgrow hown' HN HI HD N2 Em C7 HOA HNg hg0 hVw bn bf l2 x1 Ln;have Ja:=A3 (show ∀(W2:World) (v2:Value),((X.alloc (.cells #[.int .i64 (k':Int)] 3)).drew).grownBy W2 (Value.slice pA pl.length B7).ownBlock→W2.ownsRow V.heap.size 3 1 v2 (pl.length+1) (Av pl++[.int .i64 (k':Int)])→(v2.ownBlock=(Value.slice pA pl.length B7).ownBlock∨v2.ownBlock=some ((X.alloc (.cells #[.int .i64 (k':Int)] 3)).drew).heap.size)→
          ∃fX,BN V (W2.setCell ⟨pg,p,none⟩ v2) gb nb g B9 pg L fX (Ex (Ak cd) L k' (l++[(p:Int)]))∧Ints (W2.setCell ⟨pg,p,none⟩ v2) (.slice (some ⟨sb,so,none⟩) S.length Hq) S∧∀q,(Value.slice (some ⟨sb,so,none⟩) S.length Hq).ownBlock=some q→q≠g∧q≠pg∧∀i,i<2*L.length→(fX i).ownBlock≠some q from fun W2 v2 hg2 ho2 hb2=>by
         have bD:Below X.heap.size X ((X.alloc (.cells #[.int .i64 (k':Int)] 3)).drew):=Gg ((AP _ _).alloc (AH _) _);have h3:=Co.out.app (x:=0) (i:=L.length+p) (y:=(k':Int)) A0 bD (by rw [SB.out];exact hg2) (by rw [ET.out];simpa [Av] using ho2) (by rw [SB.out];exact hb2) pg p (.inr ⟨by omega,rfl,by omega⟩);rw [ET.out] at h3;refine⟨_,by rw [I7.out];exact h3,((YO.out.below bD).grown hg2 (fun q hq hq2=>(HDX.out q hq).2.2 (L.length+p) A0 (by rw [SB.out];exact hq2))).grown (Hh W2 pg p v2) (fun q hq hq2=>(HDX.out q hq).2.1 (by simpa using hq2.symm)),fun q hq=>?_⟩;obtain⟨d1,d2,d3⟩:=HDX.out q hq;refine⟨d1,d2,fun i hi=>?_⟩;unfold upd;split
         ·rcases hb2 with h|h
          ·rw [h,← SB.out];exact d3 _ A0
          ·rw [h]
           intro e';have hlt3:q<X.heap.size:=by
            obtain⟨A5,arh,hv5,_,_,h5⟩:=YO.out;cases hv5;obtain⟨b5,o5,O6,Xi,_⟩:=h5 A0;cases O6;simp [Value.ownBlock] at hq;omega
           have e2:(X.alloc (.cells #[.int .i64 (k':Int)] 3)).drew.heap.size=X.heap.size+1:=by show (X.alloc _).heap.size=_;simp
           rw [e2] at e';cases e';omega
         ·exact d3 i hi)
        clear YO HDX Co I7 ET SB;refine Yq ?_;go_region_law (refine M6 rfl (.tmp 155) (.tmp 157) 38 rfl V.heap.size 3 iI (.int .i64 0) 1 8 Ey E5 E7 DT Dw rfl AK (.slice pA pl.length B7) pl.length (Av pl) F8 (ox (qK Fq.out) _) ⟨X.heap.size,0,none⟩ 1 1 [.int .i64 (k':Int)] F8 rfl (DV _ _ _) BS Bc A0 (by show V.heap.size≤(World.alloc _ _).heap.size;rw [El];omega) ?_;intro v' W2 hown2 hgrow2 RU;obtain⟨g2,EI,rfl⟩:=GI hown2;have hc1:=hgrow2.cell (a:=⟨pg,p,none⟩) (v:=.slice pA pl.length B7) GK WR.out;have hc2:=hgrow2.cell (a:=⟨gb,1,none⟩) (v:=.slice (some ⟨pg,0,none⟩) L.length L.length) GK ZY.out;have hf1:W2.frozen? ⟨pg,p,none⟩=false:=(Pb (hgrow2.block pg Cl WR.out)).trans GK)
        all_goals
         obtain⟨fX,f1,f2,f3⟩:=Ja.out W2 _ hgrow2 hown2 RU;have⟨F1,F2,F3⟩:=B8 f1 f2 f3;clear f1 f2 f3 hgrow2 hown2 RU hc1 hc2 hf1;refine Yn ?_;go_wp2_with fail;go_roundw;case rel=>
          refine⟨j+1,fX,by omega,by go_num,?_,F2.out,F3.out⟩;rw [HNT.out,HAD.out];exact F1.out
         case measure=>exact Aa
      ·obtain rfl:j=S.length:=by omega
       have dl2:decide ((S.length:Int)<(S.length:Int))=false:=by simp
       rw [Hx] at HN;go_wp2_with fail;go_roundw;case rel=>
        refine⟨k'+1,val,by omega,by go_num,?_⟩;rw [←anD,Cw.out];exact HN.out
       case measure=>exact Aa
    ·obtain rfl:k'=L.length:=by omega
     have dl:decide ((L.length:Int)<(L.length:Int))=false:=by simp
     have hB3:=B3.out.size;have sR:w.heap.size+1<V.heap.size:=aqy KR3.out;have rq:w.heap.size+1≠gb:=by omega
     have kR:=(HN.out.blk (w.heap.size+1) sR rq A0).trans KR3.out;have r0:wr.cell? ⟨w.heap.size+1,0,none⟩=some (.slice none 0 0):=by simp [World.cell?,kR]
     have r1:wr.cell? ⟨w.heap.size+1,1,none⟩=some (.slice none 0 0):=by simp [World.cell?,kR]
     have f0:wr.frozen? ⟨w.heap.size+1,0,none⟩=false:=by simp [World.frozen?,kR]
     have f1:wr.frozen? ⟨w.heap.size+1,1,none⟩=false:=by simp [World.frozen?,kR]
     go_wp2_with fail;have G1:wr.grownBy ((wr.setCell ⟨w.heap.size+1,0,none⟩ (.slice (some ⟨g,0,none⟩) L.length B9)).setCell ⟨w.heap.size+1,1,none⟩ (.slice (some ⟨pg,0,none⟩) L.length L.length)) (some (w.heap.size+1)):=by
      refine⟨rfl,rfl,rfl,by simp,fun j _ hne=>?_⟩;have:j≠w.heap.size+1:=fun e=>hne Rq;rw [BL _ _ _ _ this,BL _ _ _ _ this]
     have hgr:=HN.out.graph G1 sR;have HNW:=A3 (show gy w.heap.size (.slice (some ⟨g,0,none⟩) L.length B9) (.slice (some ⟨pg,0,none⟩) L.length L.length) from by
      have h1:=HN.out.rg;have h2:=B3.out.size;refine⟨fun q hq=>?_,fun q hq=>?_⟩
      ·have e:g=q:=by simpa [Value.ownBlock] using hq
       omega
      ·have e:pg=q:=by simpa [Value.ownBlock] using hq
       omega)
     have JG:Below w.heap.size w ((wr.setCell ⟨w.heap.size+1,0,none⟩ (.slice (some ⟨g,0,none⟩) L.length B9)).setCell ⟨w.heap.size+1,1,none⟩ (.slice (some ⟨pg,0,none⟩) L.length L.length)):=by
      refine CJ (CJ ⟨HN.out.os.trans B3.out.os,HN.out.tape.trans B3.out.tape,HN.out.output.trans B3.out.output,EM B3.out.size HN.out.sz,fun j hj=>?_⟩ ?_ _) ?_ _
      ·exact (HN.out.blk j A0 A0 A0).trans (B3.out.block j hj)
      ·simp
      ·simp
     refine Al (v:=.tuple #[.agg #[.slice (some ⟨g,0,none⟩) L.length B9,.slice (some ⟨pg,0,none⟩) L.length L.length],.int .i64 (-1),.int .i64 0]) fR rfl (.inr (.inr (.inr ⟨Ux.out,k,e,D,L,_,_,rfl,he,LN.out,?_,rfl,hgr.1,hgr.2,JG,HNW.out⟩)));rw [←HMN.out];exact G0.out
section
open Go.ChangeShapes Go.WideShapes Go.ChangeAt Go.RowKit
open Go.ChangeShapes Go.WideShapes Go.ChangeAt Go.RowKit
open Go.ChangeShapes Go.WideShapes Go.ChangeAt Go.RowKit
structure SG (n:Nat) (e:Int) (x:AV):Prop where
 lo:e≤x.lo
 hi:x.lo<x.hi
 two:x.nx.length≤2
 nx:∀t∈x.nx,0≤t∧t<n
 ne:¬(x.nx.length=2∧x.nx.getD 0 0=x.nx.getD 1 0)
def De (n:Nat):Int→List AV→Int→Prop
 | a,[],z=>a=z
 | a,x :: xs,z=>SG n a x∧De n x.hi xs z
theorem De.append {n:Nat} {l2:List AV}:∀ {l1:List AV} {a z:Int},De n a (l1++l2) z↔∃m,De n a l1 m∧De n m l2 z
 | [],a,z=>⟨fun h=>⟨a,rfl,h⟩,fun ⟨m,h1,h2⟩=>by cases h1;exact h2⟩
 | e :: l1,a,z=>by
  constructor
  ·rintro⟨h1,h3⟩
   obtain⟨m,h4,h5⟩:=De.append.1 h3;exact⟨m,⟨h1,h4⟩,h5⟩
  ·rintro⟨m,⟨h1,h3⟩,h4⟩
   exact⟨h1,De.append.2 ⟨m,h3,h4⟩⟩
theorem De.Sd {n:Nat}:∀ {l:List AV} {a z z':Int},De n a l z→De n a l z'→z=z'
 | [],a,z,z',h,h'=>by cases h;exact h'
 | e :: l,a,z,z',h,h'=>De.Sd h.2 h'.2
theorem De.snoc {n:Nat} {l:List AV} {x:AV} {a m:Int} (h:De n a l m) (h1:SG n m x):De n a (l++[x]) x.hi:=De.append.2 ⟨m,h,h1,rfl⟩
theorem De.no {n:Nat} {G:List AV} {k:Nat} {x:AV} {m:Int} (hx:G[k]?=some x) (h:De n 0 (G.take k) m) (hno:¬SG n m x):∀z,¬De n 0 G z:=by
 intro z hz;have hk:k<G.length:=(Bl.1 hx).1;have e1:G=G.take k++(x :: G.drop (k+1)):=by
  have:=ZM k G;rw [iQ hk] at this;have e2:G[k]=x:=by rw [Aj hk] at hx;exact Gl hx
  rw [e2] at this;exact this.symm
 rw [e1] at hz;obtain⟨m',h1,h2⟩:=De.append.1 hz;have:=De.Sd h h1;subst this;exact hno h2.1
structure Ea (G:List AV) (P:List (List Int)):Prop where
 ne:G≠[]
 len:P.length=G.length
 ok:∃z,De G.length 0 G z
 prev:(List.range G.length).map (IP G G.length [])=P
theorem Dc.slice {w:World} {v:Value} {G:List AV} (h:Dc w v G):∃A cap,v=.slice A G.length cap∧G.length≤cap∧cap≤2 ^ 63 - 1:=by
 obtain⟨A,cap,h1,h2,h3,_⟩:=h;unfold maxLen at h3;exact⟨A,cap,h1,h2,h3⟩
theorem Dc.at_ {w wr:World} {A:Option Addr} {cap:Nat} {G:List AV} (h:Dc w (.slice A G.length cap) G) (hb:Below w.heap.size w wr) {j:Nat} (hj:j<G.length) :
  ∃x nv b off,G[j]?=some x∧A=some ⟨b,off,none⟩∧b<w.heap.size∧wr.cell? ⟨b,off+j*3,none⟩=some (.int .i64 x.lo)∧wr.cell? ⟨b,off+j*3+1,none⟩=some (.int .i64 x.hi)∧wr.cell? ⟨b,off+j*3+2,none⟩=some nv∧Ints w nv x.nx:=by
 obtain⟨A',cap',hv,_,_,h4⟩:=h;cases hv;obtain⟨b,off,rfl,hlt,hc⟩:=h4 A0;obtain⟨c0,c1,nv,c2,c3⟩:=hc j _ (Aj hj);exact⟨G[j],nv,b,off,Aj hj,rfl,hlt,(hb.cell (p:=⟨b,_,none⟩) hlt).trans c0,(hb.cell (p:=⟨b,_,none⟩) hlt).trans c1,(hb.cell (p:=⟨b,_,none⟩) hlt).trans c2,c3⟩
theorem Ints.slice {w:World} {v:Value} {l:List Int} (h:Ints w v l):∃A cap,v=.slice A l.length cap∧l.length≤cap∧cap≤2 ^ 63 - 1:=by
 obtain⟨A,cap,h1,h2,h3,_⟩:=h;unfold maxLen at h3;exact⟨A,cap,h1,h2,h3⟩
theorem Ints.at_ {w wr:World} {A:Option Addr} {cap:Nat} {l:List Int} (h:Ints w (.slice A l.length cap) l) (hb:Below w.heap.size w wr) {j:Nat} (hj:j<l.length) :
  ∃s b off,l[j]?=some s∧A=some ⟨b,off,none⟩∧b<w.heap.size∧wr.cell? ⟨b,off+j,none⟩=some (.int .i64 s):=by
 obtain⟨A',cap',hv,_,_,h4⟩:=h;cases hv;obtain⟨b,off,rfl,hlt,hc⟩:=h4 A0;refine⟨l[j],b,off,Aj hj,rfl,hlt,?_⟩;rw [hb.cell (p:=⟨b,_,none⟩) hlt,hc j hj];simp [List.getD,Aj hj]
theorem Kn {w:World} {q B s n:Nat} {cs:Array Value} {t e:TypeId} {fr:Nat×Nat} {v:Value} {xs:List Value} (hq:w.heap[q]?=some (.cells cs t fr)) (h:w.ownsRow B e s v n xs) (hne:t≠e):some q≠v.ownBlock:=by
 intro e1;rcases h.2 with⟨rfl,_⟩|⟨g,cap,cur,rfl,_,hg,_⟩
 ·cases e1
 ·simp [Value.ownBlock] at e1
  subst e1;rw [hq] at hg;cases hg;exact hne rfl
theorem Yd (bv pv:Value) (G:List AV) (P:List (List Int)) (w:World) (HG:Dc w bv G) (HP:CO w pv P) (hn:G.length≤5000) (BJ:∀x∈G,x.nx.length≤5000) :
  Calls Tryz.prog 35 #[.agg #[bv,pv]] w fun e w'=>(∃r:Bool,e=.returned (.bool r)∧(r=true↔Ea G P))∧Below w.heap.size w w':=by
 obtain⟨A,cap,rfl,hc1,hc2⟩:=HG.slice;obtain⟨PA,B7,rfl,hp1,hp2⟩:=HP.slice;have⟨Oy,TD,Cw⟩:=B8 HG HP BJ;clear HG HP BJ;obtain⟨V0,Bv⟩:=AA (w.alloc (.cells #[.slice A G.length cap,.slice PA P.length B7] 31));have b0:Below w.heap.size w V0:=Bv▸(AP _ _).alloc (AH _) _;have s0:w.heap.size<V0.heap.size:=by rw [←Bv];simp
 have k0:V0.heap[w.heap.size]?=some (.cells #[.slice A G.length cap,.slice PA P.length B7] 31):=by rw [←Bv];exact Ai _ _
 have y0:V0.cell? ⟨w.heap.size,0,none⟩=some (.slice A G.length cap):=by simp [World.cell?,k0]
 have y1:V0.cell? ⟨w.heap.size,1,none⟩=some (.slice PA P.length B7):=by simp [World.cell?,k0]
 have⟨K0,B0⟩:=AL k0 b0;clear k0 b0;go_enter Tryz.func35,Tryz.ntmps35;by_cases q1:G.length=0
 ·have d1:((G.length:Int)==0)=true:=by simp [q1]
  have HQ:=A3 q1;clear q1;go_wp2_with fail;go_ret;exact⟨⟨false,rfl,by simp;intro h;exact h.ne (Zs.1 HQ.out)⟩,B0.out⟩
 have d1:((G.length:Int)==0)=false:=Ls.2 A0;by_cases q2:P.length=G.length;case neg=>
  have d2:((P.length:Int) != (G.length:Int))=true:=by simp;omega
  have HQ:=A3 q2;clear q2;go_wp2_with fail;go_ret;exact⟨⟨false,rfl,by simp;intro h;exact HQ.out h.len⟩,B0.out⟩
 have d2:((P.length:Int) != (G.length:Int))=false:=by simp;omega
 have⟨HQ1,HQ2⟩:=AL q1 q2;have hn0:0<G.length:=by omega
 clear q1 q2;obtain⟨i2,hi2,hs0,hs1,hs2⟩:=D5 jM;obtain⟨U1,lm,CB,gr1⟩:=O7 (P:=Tryz.prog) V0 V0.heap.size 29 38 i2 (.slice none 0 0) 1 aJ hi2 hs0 hs1 .i64 .i64 G.length Y8 Bc (AH _);rw [Mk,show (Value.slice none 0 0).cells=#[Value.slice none 0 0] from rfl,Ni] at CB;have Xy:=A3 (PM.made gr1 (AP _ _) CB);have u0:U1.cell? ⟨w.heap.size,0,none⟩=some (.slice A G.length cap):=by rw [Xy.out.A7.cell (p:=⟨w.heap.size,0,none⟩) s0];exact y0
 clear CB gr1;go_upto_region 6 with fail;obtain⟨pg,X9⟩:=AA V0.heap.size;rw [X9] at Xy ⊢;clear Bv lm u0 d1 d2 X9;rw [←ans G] at Xy;go_loopw [4,5,6,8,29] (fun a4 a5 a6 a8 a29 wr=>∃(k:Nat) (e:Int) (val:Nat→Value),k≤G.length∧a29=.int .i64 (k:Int)∧a4=.int .i64 e∧De G.length 0 (G.take k) e∧PM V0 wr pg G.length val (IP G k [])) (fun _ _ _ _ a29 _=>G.length - (intOf a29).toNat);case atStart=>exact⟨0,0,_,Ck _,rfl,rfl,rfl,Xy.out⟩
 case round=>
  obtain⟨k,e,val,hk,rfl,rfl,hok,Nn⟩:=hrel;clear Xy;have⟨Em,HM,BW⟩:=B8 hok Nn (B0.out.trans (Nn.A7.mono A0));have sB:=Nn.A7.size;clear hok Nn;by_cases hlt:k<G.length
  ·obtain⟨x,nv,b,off,hx,rfl,hbl,c0,c1,c2,hI⟩:=Oy.out.at_ BW.out hlt
   obtain⟨NA,C6,rfl,hn1,hn2⟩:=hI.slice;have⟨HI,HX,cU⟩:=B8 hI hx (Bf hx);have hxl:=Cw.out x cU.out;have DU:=A3 (show ¬SG G.length e x→∀z,¬De G.length 0 G z from fun h=>De.no hx Em.out h);have dl:decide ((k:Int)<(G.length:Int))=true:=by simpa using hlt
   clear hx hI;by_cases q3:e≤x.lo;case neg=>
    have d3:decide (x.lo<e)=true:=by simp;omega
    have HQ:=A3 (DU.out (fun h=>q3 h.lo));clear q3;go_wp2_with fail;go_ret;exact⟨⟨false,rfl,by simp;intro h;obtain⟨z,hz⟩:=h.ok;exact HQ.out z hz⟩,BW.out.alloc A0 _⟩
   have d3:decide (x.lo<e)=false:=by simp;omega
   by_cases q4:x.lo<x.hi;case neg=>
    have d4:decide (x.hi≤x.lo)=true:=by simp;omega
    have HQ:=A3 (DU.out (fun h=>q4 h.hi));clear q4 q3;go_wp2_with fail;go_ret;exact⟨⟨false,rfl,by simp;intro h;obtain⟨z,hz⟩:=h.ok;exact HQ.out z hz⟩,BW.out.alloc A0 _⟩
   have d4:decide (x.hi≤x.lo)=false:=by simp;omega
   by_cases q5:x.nx.length≤2;case neg=>
    have d5:decide ((2:Int)<(x.nx.length:Int))=true:=by simp;omega
    have HQ:=A3 (DU.out (fun h=>q5 h.two));clear q5 q4 q3;go_wp2_with fail;go_ret;exact⟨⟨false,rfl,by simp;intro h;obtain⟨z,hz⟩:=h.ok;exact HQ.out z hz⟩,BW.out.alloc A0 _⟩
   have d5:decide ((2:Int)<(x.nx.length:Int))=false:=by simp;omega
   go_upto_region 12 with fail;obtain⟨X,hX⟩:=AA (wr.alloc (.cells #[.int .i64 x.lo,.int .i64 x.hi,.slice NA x.nx.length C6] 78));have kX:X.heap[wr.heap.size]?=some (.cells #[.int .i64 x.lo,.int .i64 x.hi,.slice NA x.nx.length C6] 78):=hX▸Ai _ _;have HMX:=A3 (hX▸HM.out.below ((AP _ _).alloc (AH _) _));have sX:wr.heap.size<X.heap.size:=by rw [←hX];simp
   rw [hX];obtain⟨q,hq⟩:=AA wr.heap.size;rw [hq] at kX sX ⊢;have⟨KX,Um⟩:=AL kX (Dt q3 (Dt q4 q5));clear kX hX c0 c1 c2 d3 d4 d5 dl q3 q4 HM BW hq;obtain⟨iI,E5,E7,DT,Dw⟩:=D5 NQ;obtain⟨wo,rfl⟩:∃wo:World,wo=wr:=⟨_,rfl⟩;go_loopw [8,56] (fun a8 a56 wr=>∃(j:Nat) (val:Nat→Value),j≤x.nx.length∧a56=.int .i64 (j:Int)∧(∀t∈x.nx.take j,0≤t∧t<(G.length:Int))∧wr.heap[q]?=some (.cells #[.int .i64 x.lo,.int .i64 x.hi,.slice NA x.nx.length C6] 78)∧PM V0 wr pg G.length val (IP G k (x.nx.take j))) (fun _ a56 _=>x.nx.length - (intOf a56).toNat);case atStart=>exact⟨0,val,Ck _,rfl,by simp,KX.out,HMX.out⟩
   case round=>
    clear HMX KX val;obtain⟨j,val,hj,rfl,hin,JC,Nn⟩:=hrel;have⟨Ei,Co,HM,BW⟩:=Bz hin JC Nn (B0.out.trans (Nn.A7.mono A0));have sB2:=Nn.A7.size;have hrg:=Nn.rg;have z0:wr.cell? ⟨w.heap.size,0,none⟩=some (.slice (some ⟨b,off,none⟩) G.length cap):=by rw [Nn.A7.cell (p:=⟨w.heap.size,0,none⟩) s0];exact y0
    have v2:wr.cell? ⟨q,2,none⟩=some (.slice NA x.nx.length C6):=by simp [World.cell?,JC]
    clear hin JC Nn;by_cases hjl:j<x.nx.length
    ·obtain⟨s,nb,FN,hs,rfl,hnb,x1⟩:=HI.out.at_ BW.out hjl
     have⟨HS,aG⟩:=AL (H8 hs) (Bf hs);have dl:decide ((j:Int)<(x.nx.length:Int))=true:=by simpa using hjl
     clear hs;by_cases q6:0≤s;case neg=>
      have d6:decide (s<0)=true:=AR A0;have HQ:=A3 (DU.out (fun h=>q6 (h.nx s aG.out).1));clear q6;go_wp2_with fail;go_ret;exact⟨⟨false,rfl,by simp;intro h;obtain⟨z,hz⟩:=h.ok;exact HQ.out z hz⟩,BW.out⟩
     have d6:decide (s<0)=false:=Aq A0;by_cases q7:s<(G.length:Int);case neg=>
      have d7:decide ((G.length:Int)≤s)=true:=AR A0;have HQ:=A3 (DU.out (fun h=>q7 (h.nx s aG.out).2));clear q7 q6;go_wp2_with fail;go_ret;exact⟨⟨false,rfl,by simp;intro h;obtain⟨z,hz⟩:=h.ok;exact HQ.out z hz⟩,BW.out⟩
     have d7:decide ((G.length:Int)≤s)=false:=Aq A0;obtain⟨p,rfl⟩:∃p:Nat,s=(p:Int):=⟨s.toNat,by omega⟩;have hp:p<G.length:=by omega
     obtain⟨t1,t2⟩:=HM.out.cells hp;have hop:=HM.out.own p hp;obtain⟨pl,hpl⟩:=AA (IP G k (x.nx.take j) p);have an0:pl.length≤30000000:=by
      rw [←hpl];have:=ana G Cw.out k A0 (x.nx.take j) p;have h2:(x.nx.take j).length≤2:=by simp;omega
      omega
     rw [hpl] at hop;obtain⟨pA,Lv,hvp⟩:∃pA Lv,val p=.slice pA pl.length Lv:=by
      rcases hop.2 with⟨h,h'⟩|⟨g,cap',cur,h,_⟩
      ·exact⟨_,_,by rw [h,h']⟩
      ·exact⟨_,_,h⟩
     have⟨SB,ET⟩:=AL hvp hpl;have WR:=A3 (show some pg≠Value.ownBlock (.slice pA pl.length Lv) from fun e'=>by
      rw [←hvp] at e'
      exact FE hop HM.out.Bk AK pg e'.symm rfl)
     have HNq:=A3 (show some q≠Value.ownBlock (.slice pA pl.length Lv) from fun e'=>Kn Co.out hop AK (by rw [hvp];exact e'));have hqp:q≠pg:=fun e'=>Kn Co.out HM.out.Bk AK (by rw [e'];rfl);rw [hvp] at hop t1;have Fq:=A3 hop;have hq3:q<wr.heap.size:=(Be.1 Co.out).1;clear hop hvp hpl q6 q7;go_upto_region 17 with (at_builtin;refine Kf _ rfl (.tmp 74) (.tmp 76) 38 rfl V0.heap.size 3 iI (.int .i64 0) 1 8 Ey E5 E7 DT Dw rfl AK (.slice pA pl.length Lv) _ _ rfl (Fq.out.alloc _) ⟨wr.heap.size,0,none⟩ 1 1 [.int .i64 (k:Int)] rfl rfl (DV _ _ _) BS Bc A0 Hz ?_;intro v' W' hown' hgrow _ Ce;obtain⟨g',cap',rfl⟩:=GI hown';have hc1:=hgrow.cell (a:=⟨pg,p,none⟩) (v:=.slice pA pl.length Lv) GK WR.out;have hf1:W'.frozen? ⟨pg,p,none⟩=false:=(Pb (hgrow.block pg Cl WR.out)).trans GK);have hB:=HM.out.app (y:=(k:Int)) hp ((AP wr.heap.size wr).alloc (AH _) (.cells #[.int .i64 (k:Int)] 3)) (by rw [SB.out];exact hgrow) (by rw [ET.out];simpa [Av] using hown') (by rw [SB.out];exact Ce);rw [ET.out] at hB;have hBq:(W'.setCell ⟨pg,p,none⟩ (.slice (some ⟨g',0,none⟩) (pl.length+1) cap')).heap[q]?=some (.cells #[.int .i64 x.lo,.int .i64 x.hi,.slice (some ⟨nb,FN,none⟩) x.nx.length C6] 78):=by
      rw [BL _ _ _ _ hqp,hgrow.block q Hz HNq.out,Bb _ _ hq3];exact Co.out
     have⟨HB,HBQ⟩:=AL hB hBq;clear hB hBq hc1 hf1 Ce hgrow hown' t1 t2 Fq WR HNq;go_wp2_with fail;go_roundw;case rel=>
      refine⟨j+1,upd val p (.slice (some ⟨g',0,none⟩) (pl.length+1) cap'),by omega,by go_num,fun t ht=>?_,HBQ.out,?_⟩
      ·rw [HS.out] at ht
       rcases CG.1 ht with h|h
       ·exact Ei.out t h
       ·simp at h;omega
      ·rw [HS.out,aqX,ET.out]
       exact HB.out
     case measure=>exact Aa
    ·obtain rfl:j=x.nx.length:=by omega
     have dl:decide ((x.nx.length:Int)<(x.nx.length:Int))=false:=by simp
     rw [Hx] at Ei HM;have hq3:q<wr.heap.size:=(Be.1 Co.out).1;by_cases q8:x.nx.length=2
     ·obtain⟨bL,nb,FN,hs,rfl,hnb,x1⟩:=HI.out.at_ BW.out (j:=0) A0
      obtain⟨s1',nb',arU,hs',hA,arS,x2⟩:=HI.out.at_ BW.out (j:=1) A0;cases hA;have hnw:nb<wr.heap.size:=by omega
      have d8:((x.nx.length:Int)==2)=true:=by simp;omega
      have e0:x.nx.getD 0 0=bL:=by simp [List.getD,hs]
      have e1:x.nx.getD 1 0=s1':=by simp [List.getD,hs']
      have i0:(0:Int)<(x.nx.length:Int):=by omega
      have i1:(1:Int)<(x.nx.length:Int):=by omega
      rw [fU] at x1;by_cases q9:bL=s1'
      ·have d9:(bL==s1')=true:=by simp [q9]
       have HQ:=A3 (DU.out (fun h=>h.ne ⟨q8,by rw [e0,e1,q9]⟩));clear q9 e0 e1 q8 hs hs' q5;go_upto_region 18 with fail;refine Cg A6 A6 ?_;repeat (go_big_quiet_step (fail))
       refine Ba ?_;rintro _ ⟨y,rfl⟩;go_wp2_with fail;go_ret;exact⟨⟨false,rfl,by simp;intro h;obtain⟨z,hz⟩:=h.ok;exact HQ.out z hz⟩,Ext.below BW.out BW.out.size y⟩
      ·have d9:(bL==s1')=false:=by simp [q9]
       have iM:=A3 (show SG G.length e x from⟨Um.out.1,Um.out.2.1,Um.out.2.2,Ei.out,fun h=>q9 (by rw [←e0,← e1];exact h.2)⟩);clear q9 e0 e1 q8 hs hs' q5;go_upto_region 18 with fail;refine Cg A6 A6 ?_;repeat (go_big_quiet_step (fail))
       refine Ba ?_;rintro _ ⟨y,rfl⟩;go_wp2_with fail;go_roundw;case rel=>exact⟨k+1,x.hi,val,by omega,by go_num,rfl,by rw [H8 HX.out];exact Em.out.snoc iM.out,by rw [←nO G k x HX.out];exact HM.out.below y.h⟩
       case measure=>exact Aa
     ·have d8:((x.nx.length:Int)==2)=false:=Ls.2 A0
      have iM:=A3 (show SG G.length e x from⟨Um.out.1,Um.out.2.1,Um.out.2.2,Ei.out,fun h=>q8 h.1⟩);clear q8 q5;go_upto_region 18 with fail;refine Cg A6 A6 ?_;repeat (go_big_quiet_step (fail))
      refine Ba ?_;rintro _ ⟨y,rfl⟩;go_wp2_with fail;go_roundw;case rel=>exact⟨k+1,x.hi,val,by omega,by go_num,rfl,by rw [H8 HX.out];exact Em.out.snoc iM.out,by rw [←nO G k x HX.out];exact HM.out.below y.h⟩
      case measure=>exact Aa
  ·obtain rfl:k=G.length:=by omega
   have dl:decide ((G.length:Int)<(G.length:Int))=false:=by simp
   rw [Hx] at Em;have z1:wr.cell? ⟨w.heap.size,1,none⟩=some (.slice PA P.length B7):=by rw [HM.out.A7.cell (p:=⟨w.heap.size,1,none⟩) s0];exact y1
   have HEF:=A3 (xz _ _ _ P wr HM.out.lls (TD.out.below BW.out));go_wp2_with (go_at_call 64;refine HEF.out.mono ?_;rintro e w' ⟨rfl,hb5⟩);go_ret;refine⟨⟨_,rfl,?_⟩,BW.out.trans (hb5.mono (by have:=BW.out.size;omega))⟩;rw [DK];constructor
   ·intro h
    exact⟨fun e=>HQ1.out Mj,HQ2.out,⟨_,Em.out⟩,h⟩
   ·intro h
    exact h.prev
structure nk (w:World) (v:Value) (l:List Ins):Prop where
 at_:∃A cap,v=.slice A l.length cap∧l.length≤cap∧cap≤maxLen∧(0<l.length→∃b off,A=some ⟨b,off,none⟩∧b<w.heap.size∧∀i x,l[i]?=some x→
  w.cell? ⟨b,off+i*5,none⟩=some (.int .u8 x.op)∧w.cell? ⟨b,off+i*5+1,none⟩=some (.int .i64 x.a)∧w.cell? ⟨b,off+i*5+2,none⟩=some (.int .i64 x.b)∧w.cell? ⟨b,off+i*5+3,none⟩=some (.int .i64 x.c)∧w.cell? ⟨b,off+i*5+4,none⟩=some (.int .i64 x.AG))
theorem tX:(Tryz.prog.info? 70).map (fun i=>(i.zero,i.size,i.bytes))=some (some (.int .u32 0),1,4):=by kernel_rfl
abbrev Jl (l:List Int):List Value:=l.map (Value.int .u32)
structure IG (V wr:World) (ib:Nat) (cv ev:Value) (ws:List Int):Prop where
 ib1:ib<V.heap.size
 os:wr.os=V.os
 tape:wr.tape=V.tape
 output:wr.output=V.output
 sz:V.heap.size≤wr.heap.size
 blk:∀k,k<V.heap.size→k≠ib→wr.heap[k]?=V.heap[k]?
 im:wr.heap[ib]?=some (.cells #[cv,ev,.int .i64 0,.int .i64 0] 25 (0,0))
 row:wr.ownsRow V.heap.size 70 1 cv ws.length (Jl ws)
theorem IG.below {V wr wr':World} {ib:Nat} {cv ev:Value} {ws:List Int} (h:IG V wr ib cv ev ws) (hb:Below wr.heap.size wr wr'):IG V wr' ib cv ev ws:=
 ⟨h.ib1,hb.os.trans h.os,hb.tape.trans h.tape,hb.output.trans h.output,EM h.sz hb.size,fun k h1 h2=>(hb.block k YL).trans (h.blk k h1 h2),(hb.block _ (by have:=h.sz;have:=h.ib1;omega)).trans h.im,CH h.row hb⟩
theorem IG.base {V wr w:World} {ib:Nat} {cv ev:Value} {ws:List Int} (h:IG V wr ib cv ev ws) (hb:Below w.heap.size w V) (hi:w.heap.size≤ib):Below w.heap.size w wr:=
 ⟨h.os.trans hb.os,h.tape.trans hb.tape,h.output.trans hb.output,EM hb.size h.sz,fun k hk=>(h.blk k (by have:=hb.size;omega) A0).trans (hb.block k hk)⟩
theorem IG.app {V wr w2 W':World} {ib:Nat} {cv ev v':Value} {ws:List Int} {x:Int} (h:IG V wr ib cv ev ws) (hb:Below wr.heap.size wr w2) (hg:w2.grownBy W' cv.ownBlock) (hown:W'.ownsRow V.heap.size 70 1 v' (ws.length+1) (Jl (ws++[x]))):IG V (W'.setCell ⟨ib,0,none⟩ v') ib v' ev (ws++[x]):=by
 have G:=grown_of hb hg;have i1:=h.ib1;have hsz:=h.sz;have JI:=G.size;have rl:∀q,cv.ownBlock=some q→V.heap.size≤q:=fun q hq=>(h.row.lt q hq).1;have sm:∀k,k<V.heap.size→W'.heap[k]?=wr.heap[k]?:=fun k hk=>G.block k A0 (fun e=>by have:=rl k e.symm;omega);refine⟨i1,G.os.trans h.os,G.tape.trans h.tape,G.output.trans h.output,by simp;omega,fun k h1 h2=>?_,?_,?_⟩
 ·rw [BL _ _ _ _ h2];exact (sm k h1).trans (h.blk k h1 h2)
 ·rw [Ej W' ib 0 _ _ v' ((sm ib i1).trans h.im)];rfl
 ·rw [show (ws++[x]).length=ws.length+1 by simp]
  exact OU hown (fun e=>by have:=(hown.lt ib e).1;omega) _
theorem xN {w:World} {B:Nat} {v:Value} {ws:List Int} (h:w.ownsRow B 70 1 v ws.length (Jl ws)) (hl:ws.length≤1000000) (hw:∀x∈ws,0≤x∧x<4294967296):Words w v ws.length (fun i=>ws.getD i 0):=by
 refine⟨hl,fun i hi=>?_,?_⟩
 ·have:ws.getD i 0=ws[i]:=by simp [List.getD,Aj hi]
  rw [this];exact hw _ (Cn hi)
 ·rcases h.2 with⟨rfl,h0⟩|⟨g,cap,cur,rfl,_,hg,h1,h2,_,_⟩
  ·rw [h0]
   exact⟨none,0,rfl,AH _,by unfold maxLen;omega,fun h=>by omega⟩
  ·refine⟨_,cap,rfl,h1,h2,fun _=>⟨g,0,rfl,(Be.1 hg).1,fun i hi=>?_⟩⟩
   rw [EU,h.cellAt i A0];simp [Jl,List.getD,Aj hi]
theorem aqV (c:Int→Ins) (st:Int) {D D':List Int} (h:∀x,x∈D↔x∈D') (x:Int):EN c st D x=EN c st D' x:=by
 have:EN c st D x=true↔EN c st D' x=true:=by
  rw [SZ,SZ];unfold Og;constructor
  ·rintro (e|⟨a,ha,hm⟩)
   ·exact .inl e
   ·exact .inr ⟨a,(h a).1 ha,hm⟩
  ·rintro (e|⟨a,ha,hm⟩)
   ·exact .inl e
   ·exact .inr ⟨a,(h a).2 ha,hm⟩
 cases h1:EN c st D x<;>cases h2:EN c st D' x<;>simp_all
theorem mG (c:Int→Ins) (st:Int) {D D':List Int} (h:∀x,x∈D↔x∈D'):∀m,blk c st D m=blk c st D' m
 | 0=>rfl
 | m+1=>by
  unfold blk;rw [mG c st h m,aqV c st h];simp only [h]
theorem qm {α:Type} {f:α→List Value} (hf:∀x,(f x).length=6):∀(L:List α) (k j:Nat) (x:α),L[k]?=some x→j<6→(L.flatMap f)[k*6+j]?=(f x)[j]?
 | y :: L,0,j,x,h,hj=>by
  simp at h;subst h;rw [JO,TN,EU,JJ (by rw [hf];exact hj)]
 | y :: L,k+1,j,x,h,hj=>by
  have h':L[k]?=some x:=by simpa using h
  rw [JO,J4 (by rw [hf];omega),hf,show (k+1)*6+j - 6=k*6+j by omega];exact qm hf L k j x h' hj
theorem j6 {W:World} (h:laidMet Tryz.prog [("ontime/isa.formats", Rows.laid_ontime_isa_formats)] W):C8 W:=by
 have hv:=amP h;have hg:Tryz.prog.globalNamed "ontime/isa.formats" = some 0:=by kernel_rfl
 have hc:∀k,W.cell? ⟨0,k,none⟩=PD.toArray[k]?:=fun k=>World.var?_cell hg hv k;refine⟨?_,fun k hk j v hv2=>?_⟩
 ·have h0:W.cell? ⟨0,0,none⟩=some (.string ⟨#[110,111,112]⟩):=by rw [hc 0];kernel_rfl
  exact lu h0
 ·rw [hc]
  have hj:j<6:=by
   have:=(Bl.1 hv2).1;simpa [Fm.cells] using this
  have hf:QW[k]?=some (fm k):=by
   unfold fm;have:k<QW.length:=hk;simp [List.getD,Aj this]
  have:=qm (f:=Fm.cells) (fun x=>rfl) QW k j (fm k) hf hj;simp only [Xv];unfold PD;rw [this];exact hv2
noncomputable def ZQ (os:Os):World:=
 { World.holding Tryz.prog os ⟨#[],#[],[]⟩ with heap:=(World.holding Tryz.prog os ⟨#[],#[],[]⟩).heap.modify 0 fun
   | .cells _ t frozen=>.cells PD.toArray t frozen
   | o=>o }
theorem sO (os:Os) (args:Array Value):((ZQ os).forCall (fun _ _=>0) ⟨#[],args,[]⟩).memory.heap[0]?=some (.cells PD.toArray 132 (0,0)):=by kernel_rfl
theorem nI (os:Os) (args:Array Value):laidMet Tryz.prog [("ontime/isa.formats", Rows.laid_ontime_isa_formats)] ((ZQ os).forCall (fun _ _=>0) ⟨#[],args,[]⟩).memory:=by
 refine⟨_,⟨0,132,PD.toArray,8,[],[],by kernel_rfl,by kernel_rfl,by kernel_rfl,by kernel_rfl,rfl,rfl⟩,by decide +kernel,fun b off h=>?_⟩;have hb:b=0:=by
  have h':MemPlace.cell b off∈(List.range 180).map (fun i=>MemPlace.cell 0 (0+i)):=by
   have e:(MemPlace.row ⟨0,0,none⟩ PD.toArray.size++[]++[]:List MemPlace)=(List.range 180).map (fun i=>MemPlace.cell 0 (0+i)):=by decide +kernel
   rw [e] at h;exact h
  obtain⟨i,_,e⟩:=Bx.1 h';cases e;rfl
 subst hb;refine⟨⟨PD.toArray,132,sO os args⟩,fun u v hc=>?_⟩;simp only [World.cell?,sO os args] at hc;exfalso;have hm:Value.iface u v∈PD:=Bf (by simpa using hc);unfold PD at hm;obtain⟨f,_,hf⟩:=cj.1 hm;simp [Fm.cells] at hf
theorem Y0 {α:Type} {P:Nat→α→Prop} (len:Nat) (h:∀i,i<len→∃x,P i x):∃l:List α,l.length=len∧∀i x,l[i]?=some x→P i x:=by
 induction len with
 | zero=>exact⟨[],rfl,fun i x hx=>by simp at hx⟩
 | succ n ih=>
  obtain⟨l,h1,h2⟩:=ih (fun i hi=>h i A0);obtain⟨x,hx⟩:=h n A0;refine⟨l++[x],by simp [h1],fun i y hy=>?_⟩;by_cases hi:i<l.length
  ·rw [JJ hi] at hy
   exact h2 i y hy
  ·rw [J4 A0] at hy
   have:i - l.length=0:=by
    rcases TC (i - l.length) with e|e
    ·exact e
    ·rw [E0 Cl] at hy;cases hy
   rw [this] at hy;simp at hy;subst hy;rw [show i=n by omega];exact hx
section
variable {H:Type} {enc:TypeId×Value→H} {P:Program} {w:World} {base:Nat} {spare:Nat→Bool} {held:Bool}
theorem Yy {t e:TypeId} {fuel:Nat} {cs0:List Value} {y0:DataW H×List MemPlace} (ht:P.underlying t=some (.slice e)) (c:Nat) (hC:P.cellsOf e=c) (hc:0<c)
  (hf:DataW.trod enc P w base spare held fuel t cs0=some y0) :
  ∃v len,cs0=[v]∧QZ w w.heap.size v len c (fun i cs=>∃n y,DataW.trod enc P w base spare held n e cs=some y):=by
 rcases Go.Deep.open_slice ht hf with⟨hcs,_⟩|⟨a,len,cap,m,n,D,Pl,hcs,_,hl,hm,hmm,_,hi⟩
 ·exact⟨.slice none 0 0,0,hcs,none,0,rfl,AH _,by unfold maxLen;omega,fun h=>absurd h A0⟩
 ·refine⟨.slice (some a) len cap,len,hcs,_,cap,rfl,hl,hm,fun h0=>?_⟩
  have hlm:len≤m:=by rw [hmm];split<;>omega
  have cell:∀i,i<len→∃cs,(∃n y,DataW.trod enc P w base spare held n e cs=some y)∧cs.length=c∧∀j,j<c→w.cell? ((a.add (i*c)).add j)=cs[j]?:=by
   intro i hi';obtain⟨cs,hcs,htr⟩:=hi i A0;rw [hC] at hcs;obtain⟨_,hl',hat⟩:=World.cells?_some hcs;exact⟨cs,⟨n,_,htr⟩,hl',hat⟩
  have hspot:a.spot=none∧a.block<w.heap.size:=by
   obtain⟨cs,_,hl',hat⟩:=cell 0 h0;have h1:=hat 0 hc;rw [Aj A0] at h1;have e0:((a.add (0*c)).add 0)=a:=by simp [Addr.add]
   rw [e0] at h1;exact⟨World.cell?_spot h1,lu h1⟩
  obtain⟨b,off,spot⟩:=a;simp only at hspot;obtain⟨rfl,hb⟩:=hspot;refine⟨b,off,rfl,hb,fun i hi'=>?_⟩;obtain⟨cs,r,hl',hat⟩:=cell i hi';refine⟨cs,r,hl',fun j hj=>?_⟩;rw [←hat j hj];congr 1
  unfold Addr.add;split<;>split<;>simp<;>omega
end
section
variable {H:Type} {enc:TypeId×Value→H} {w:World} {base:Nat} {spare:Nat→Bool} {held:Bool}
theorem ja:Tryz.prog.cellsOf 3=1:=by kernel_rfl
theorem acG:Tryz.prog.cellsOf 38=1:=by kernel_rfl
theorem y9:Tryz.prog.cellsOf 28=1:=by kernel_rfl
theorem aoH:Tryz.prog.cellsOf 29=1:=by kernel_rfl
theorem ar3:Tryz.prog.cellsOf 31=2:=by kernel_rfl
theorem apw {cs:List Value} (h:cs.length=3):∃c0 c1 c2,cs=[c0,c1,c2]:=by
 match cs,h with
 | [c0,c1,c2],_=>exact⟨c0,c1,c2,rfl⟩
theorem qC {fuel:Nat} {cs:List Value} {y:DataW H×List MemPlace} (h:DataW.trod enc Tryz.prog w base spare held fuel 38 cs=some y):∃v l,cs=[v]∧Ints w v l∧∀x∈l,O2 x:=by
 obtain⟨v,len,rfl,A,cap,rfl,h1,h2,hc⟩:=Yy Ey 1 A6 A0 h;obtain⟨l,hl,hp⟩:=Y0 (P:=fun i (x:Int)=>O2 x∧(0<len→∃b off,A=some ⟨b,off,none⟩∧b<w.heap.size∧w.cell? ⟨b,off+i,none⟩=some (.int .i64 x))) len (fun i hi=>by
  obtain⟨b,off,rfl,hb,hx⟩:=hc A0;obtain⟨cs,⟨n,y,htr⟩,_,hj⟩:=hx i hi;obtain⟨z,rfl,_,hw⟩:=NC CS htr;have:=hj 0 A0
  exact⟨z,hw,fun _=>⟨b,off,rfl,hb,by simpa using this⟩⟩)
 subst hl;refine⟨_,l,rfl,⟨A,cap,rfl,h1,h2,fun h0=>?_⟩,fun x hx=>?_⟩
 ·obtain⟨b,off,rfl,hb,hx⟩:=hc h0
  refine⟨b,off,rfl,hb,fun i hi=>?_⟩;obtain⟨_,h4⟩:=hp i _ (Aj hi);obtain⟨b',off',e,_,h5⟩:=h4 h0;cases e;rw [h5];simp [List.getD,Aj hi]
 ·obtain⟨i,hi⟩:=LH.1 hx
  exact (hp i x hi).1
theorem aoJ {fuel:Nat} {cs:List Value} {y:DataW H×List MemPlace} (h:DataW.trod enc Tryz.prog w base spare held fuel 29 cs=some y):∃v P,cs=[v]∧CO w v P:=by
 obtain⟨v,len,rfl,A,cap,rfl,h1,h2,hc⟩:=Yy aJ 1 A6 A0 h;obtain⟨l,hl,hp⟩:=Y0 (P:=fun i (x:List Int)=>(0<len→∃b off nv,A=some ⟨b,off,none⟩∧b<w.heap.size∧w.cell? ⟨b,off+i,none⟩=some nv∧Ints w nv x)) len (fun i hi=>by
  obtain⟨b,off,rfl,hb,hx⟩:=hc A0;obtain⟨cs,⟨n,y,htr⟩,_,hj⟩:=hx i hi;obtain⟨nv,l,rfl,hI,_⟩:=qC htr;have:=hj 0 A0
  exact⟨l,fun _=>⟨b,off,nv,rfl,hb,by simpa using this,hI⟩⟩)
 subst hl;refine⟨_,l,rfl,A,cap,rfl,h1,h2,fun h0=>?_⟩;obtain⟨b,off,rfl,hb,hx⟩:=hc h0;refine⟨b,off,rfl,hb,fun i x hi=>?_⟩;obtain⟨b',off',nv,e,_,h5,h6⟩:=hp i x hi h0;cases e;exact⟨nv,h5,h6⟩
theorem abn {fuel:Nat} {cs:List Value} {y:DataW H×List MemPlace} (h:DataW.trod enc Tryz.prog w base spare held fuel 28 cs=some y):∃v G,cs=[v]∧Dc w v G:=by
 obtain⟨v,len,rfl,A,cap,rfl,h1,h2,hc⟩:=Yy Tryz.underlying28 3 A6 A0 h;obtain⟨l,hl,hp⟩:=Y0 (P:=fun i (x:AV)=>(0<len→∃b off nv,A=some ⟨b,off,none⟩∧b<w.heap.size∧w.cell? ⟨b,off+i*3,none⟩=some (.int .i64 x.lo)∧w.cell? ⟨b,off+i*3+1,none⟩=some (.int .i64 x.hi)∧w.cell? ⟨b,off+i*3+2,none⟩=some nv∧Ints w nv x.nx)) len (fun i hi=>by
  obtain⟨b,off,rfl,hb,hx⟩:=hc A0;obtain⟨cs,⟨n,y,htr⟩,hl,hj⟩:=hx i hi;obtain⟨y0,y1,y2,n',_,_,g0,g1,g2⟩:=Go.Deep.trod_struct3 Tryz.underlying78 htr;obtain⟨c0,c1,c2,rfl⟩:=apw hl;simp only [ja,acG,List.drop_zero,Er,Ew,List.take_zero] at g0 g1 g2;obtain⟨z0,e0,_,_⟩:=NC CS g0;obtain⟨z1,e1,_,_⟩:=NC CS g1;obtain⟨nv,l,e2,hI,_⟩:=qC g2;simp at e0 e1 e2;subst e0 e1 e2;refine⟨⟨z0,z1,l⟩,fun _=>⟨b,off,c2,rfl,hb,?_,?_,?_,hI⟩⟩
  ·simpa using hj 0 A0
  ·simpa [UC] using hj 1 A0
  ·simpa [UC] using hj 2 A0)
 subst hl;refine⟨_,l,rfl,A,cap,rfl,h1,h2,fun h0=>?_⟩;obtain⟨b,off,rfl,hb,hx⟩:=hc h0;refine⟨b,off,rfl,hb,fun i x hi=>?_⟩;obtain⟨b',off',nv,e,_,h5,h6,h7,h8⟩:=hp i x hi h0;cases e;exact⟨h5,h6,nv,h7,h8⟩
theorem array2 {α:Type} {cs:Array α} (h:cs.size=2):∃c0 c1,cs=#[c0,c1]:=by
 obtain⟨l⟩:=cs;match l,h with
 | [c0,c1],_=>exact⟨c0,c1,rfl⟩
theorem arj {r:Reach} {b0:Nat} {v:Value} {d:DataW H} {p:List MemPlace} (hv:Value.okWide Tryz.prog w r b0 31 v) (h:DataW.Trod enc Tryz.prog w base spare held 31 v d p) :
  ∃bv pv G P,v=.agg #[bv,pv]∧Dc w bv G∧CO w pv P:=by
 obtain⟨cs,rfl,hsz⟩:=okWide_struct Zl hv;obtain⟨c0,c1,rfl⟩:=array2 (hsz.trans ar3);obtain⟨fuel,hf⟩:=h;obtain⟨y0,y1,n,_,_,g0,g1⟩:=trod_struct2 Zl hf;simp only [Value.cells,y9,aoH,List.drop_zero,Er,Ew,List.take_zero] at g0 g1;obtain⟨bv,G,e0,hG⟩:=abn g0;obtain⟨pv,P,e1,hP⟩:=aoJ g1;simp at e0 e1;subst e0 e1;exact⟨c0,c1,G,P,rfl,hG,hP⟩
end
def inB (pc:Int) (x:AV):Prop:=x.lo≤pc∧pc<x.hi
instance (pc:Int) (x:AV):Decidable (inB pc x):=by unfold inB;infer_instance
def Cf (G:List AV) (k:Nat) (l:List Int):List (Int×Int):=((List.range k).flatMap fun b=>((G.getD b ⟨0,0,[]⟩).nx).map fun t=>((b:Int),t))++l.map fun t=>((k:Int),t)
theorem abd (G:List AV) (k:Nat) (l:List Int) (t:Int):Cf G k (l++[t])=Cf G k l++[((k:Int),t)]:=by simp [Cf]
theorem amB {G:List AV} {k:Nat} {x:AV} (hx:G[k]?=some x):Cf G k x.nx=Cf G (k+1) []:=by
 unfold Cf;have e:G.getD k ⟨0,0,[]⟩=x:=by simp [List.getD,hx]
 rw [J5,QD];simp only [JO,fD,M8,XU,e]
theorem pK (G:List AV) (hn:∀x∈G,x.nx.length≤5000) (k:Nat) (hk:k≤G.length) (l:List Int):(Cf G k l).length≤5000*k+l.length:=by
 have c2:∀k,k≤G.length→((List.range k).flatMap fun b=>((G.getD b ⟨0,0,[]⟩).nx).map fun t=>((b:Int),t)).length≤5000*k:=by
  intro k;induction k with
  | zero=>simp
  | succ k ih=>
   intro hk;have:=ih A0;rw [J5,QD,FO];have h2:(G.getD k ⟨0,0,[]⟩).nx.length≤5000:=by
    have hk':k<G.length:=by omega
    rw [show G.getD k ⟨0,0,[]⟩=G[k] by simp [List.getD,Aj hk']];exact hn _ (Cn hk')
   simp only [JO,fD,M8,ED];omega
 have:=c2 k hk;unfold Cf;rw [FO,ED];omega
def JA (L:List (Int×Int)):List Value:=L.flatMap fun p=>[.int .i64 p.1,.int .i64 p.2]
theorem mS (L:List (Int×Int)) (a b:Int):JA (L++[(a,b)])=JA L++[.int .i64 a,.int .i64 b]:=by simp [JA]
theorem kD:∀(L:List (Int×Int)) (i j:Nat) (p:Int×Int),L[i]?=some p→j<2→(JA L)[i*2+j]?=[Value.int .i64 p.1,.int .i64 p.2][j]?
 | y :: L,0,j,p,h,hj=>by
  simp at h;subst h;have e:JA (y :: L)=[.int .i64 y.1,.int .i64 y.2]++JA L:=by simp [JA]
  rw [e,TN,EU,JJ (by simpa using hj)]
 | y :: L,i+1,j,p,h,hj=>by
  have h':L[i]?=some p:=by simpa using h
  have e:JA (y :: L)=[.int .i64 y.1,.int .i64 y.2]++JA L:=by simp [JA]
  rw [e,J4 Cl,show (i+1)*2+j - [Value.int .i64 y.1,.int .i64 y.2].length=i*2+j by simp;omega];exact kD L i j p h' hj
def U6 (w:World) (v:Value) (L:List (Int×Int)):Prop:=
 ∃A cap,v=.slice A L.length cap∧L.length≤cap∧cap≤2 ^ 63 - 1∧(0<L.length→∃b off,A=some ⟨b,off,none⟩∧b<w.heap.size∧∀i p,L[i]?=some p→w.cell? ⟨b,off+i*2,none⟩=some (.int .i64 p.1)∧w.cell? ⟨b,off+i*2+1,none⟩=some (.int .i64 p.2))
theorem U6.below {w w':World} {v:Value} {L:List (Int×Int)} (h:U6 w v L) (hb:Below w.heap.size w w'):U6 w' v L:=by
 obtain⟨A,cap,h1,h2,h3,h4⟩:=h;refine⟨A,cap,h1,h2,h3,fun h0=>?_⟩;obtain⟨b,off,ha,hlt,hc⟩:=h4 h0;refine⟨b,off,ha,by have:=hb.size;omega,fun i p hp=>?_⟩;obtain⟨c0,c1⟩:=hc i p hp;exact⟨(hb.cell (p:=⟨b,_,none⟩) hlt).trans c0,(hb.cell (p:=⟨b,_,none⟩) hlt).trans c1⟩
theorem vh {w:World} {B:Nat} {e:TypeId} {v:Value} {L:List (Int×Int)} (h:w.ownsRow B e 2 v L.length (JA L)):U6 w v L:=by
 rcases h.2 with⟨rfl,h0⟩|⟨g,cap',cur,rfl,h1,h2,h3,h4,_,_⟩
 ·exact⟨none,0,by rw [h0],by omega,by omega,fun h=>by omega⟩
 ·unfold maxLen at h4
  refine⟨_,cap',rfl,h3,h4,fun _=>⟨g,0,rfl,(Be.1 h2).1,fun i p hp=>?_⟩⟩;have hi:=(Bl.1 hp).1;refine⟨?_,?_⟩
  ·rw [EU,h.cellAt _ A0,show i*2=i*2+0 from rfl,kD L i 0 p hp A0];rfl
  ·rw [EU,h.cellAt _ A0,kD L i 1 p hp A0];rfl
theorem jA (w:World) (a b:Value) (t:TypeId):∀j u,[a,b][j]?=some u→(w.alloc (.cells #[a,b] t)).cell? ((⟨w.heap.size,0,none⟩:Addr).add j)=some u:=by
 intro j u h;have e:(⟨w.heap.size,0,none⟩:Addr).add j=⟨w.heap.size,j,none⟩:=by cases j<;>simp [Addr.add]
 rw [e];unfold World.cell?;rw [Ai];simpa using h
theorem infoP:(Tryz.prog.info? 109).map (fun i=>(i.zero,i.size,i.bytes))=some (some (.agg #[.int .i64 0,.int .i64 0]),2,16):=by kernel_rfl
theorem aiL (bv pv:Value) (G:List AV) (w:World) (HG:Dc w bv G) (hn:G.length≤5000) (BJ:∀x∈G,x.nx.length≤5000) :
  Calls Tryz.prog 38 #[.agg #[bv,pv]] w fun e w'=>(∃v,e=.returned v∧U6 w' v (Cf G G.length []))∧Below w.heap.size w w':=by
 obtain⟨A,cap,rfl,hc1,hc2⟩:=HG.slice;have⟨Oy,Cw⟩:=AL HG BJ;clear HG BJ;obtain⟨V0,Bv⟩:=AA (w.alloc (.cells #[.slice A G.length cap,pv] 31));have b0:Below w.heap.size w V0:=Bv▸(AP _ _).alloc (AH _) _;have s0:w.heap.size<V0.heap.size:=by rw [←Bv];simp
 have k0:V0.heap[w.heap.size]?=some (.cells #[.slice A G.length cap,pv] 31):=by rw [←Bv];exact Ai _ _
 have y0:V0.cell? ⟨w.heap.size,0,none⟩=some (.slice A G.length cap):=by simp [World.cell?,k0]
 have B0:=A3 b0;clear k0 b0;obtain⟨iP,fG,bT,cV,Zk⟩:=D5 infoP;go_enter Tryz.func38,Tryz.ntmps38;go_upto_region 3 with fail;clear Bv;go_loopw [3,4,5,7,11] (fun a3 a4 a5 a7 a11 wr=>∃k:Nat,k≤G.length∧a11=.int .i64 (k:Int)∧wr.ownsRow V0.heap.size 109 2 a3 (Cf G k []).length (JA (Cf G k []))∧Below V0.heap.size V0 wr) (fun _ _ _ _ a11 _=>G.length - (intOf a11).toNat);case atStart=>exact⟨0,Ck _,rfl,JV _ _ _ _,AP _ _⟩
 case round=>
  obtain⟨k,hk,rfl,hown,hb⟩:=hrel;have⟨HO,HB,BW⟩:=B8 hown hb (B0.out.trans (hb.mono A0));have s1:=hb.size;clear hown hb;by_cases hlt:k<G.length
  ·obtain⟨x,nx,b,off,hx,rfl,hbl,c0,c1,c2,hIx⟩:=Oy.out.at_ BW.out hlt
   obtain⟨NA,C6,rfl,hn1,hn2⟩:=hIx.slice;have HX:=A3 (amB hx);have hxl:=Cw.out x (Bf hx);have YO:=A3 hIx;have dl:decide ((k:Int)<(G.length:Int))=true:=AR A0;clear hx hIx;obtain⟨X,hX⟩:=AA (wr.alloc (.cells #[.int .i64 x.lo,.int .i64 x.hi,.slice NA x.nx.length C6] 78));have bX:Below wr.heap.size wr X:=hX▸(AP _ _).alloc (AH _) _;have kX:X.heap[wr.heap.size]?=some (.cells #[.int .i64 x.lo,.int .i64 x.hi,.slice NA x.nx.length C6] 78):=hX▸Ai _ _;have o2:X.cell? ⟨wr.heap.size,2,none⟩=some (.slice NA x.nx.length C6):=by simp [World.cell?,kX]
   have⟨HOX,Co⟩:=AL (CH HO.out bX) (HB.out.trans (bX.mono s1));clear kX bX;go_upto_region 6 with fail;clear hX c0 c1 c2 o2 HO HB BW;obtain⟨wo,rfl⟩:∃wo:World,wo=wr:=⟨_,rfl⟩;go_loopw [3,7,19] (fun a3 a7 a19 wr=>∃j:Nat,j≤x.nx.length∧a19=.int .i64 (j:Int)∧wr.ownsRow V0.heap.size 109 2 a3 (Cf G k (x.nx.take j)).length (JA (Cf G k (x.nx.take j)))∧Below V0.heap.size V0 wr) (fun _ _ a19 _=>x.nx.length - (intOf a19).toNat);case atStart=>exact⟨0,Ck _,rfl,HOX.out,Co.out⟩
   case round=>
    obtain⟨j,hj,rfl,hown,hb⟩:=hrel;have⟨HO,HB,BW⟩:=B8 hown hb (B0.out.trans (hb.mono A0));have s2:=hb.size;clear hown hb HOX Co dl;by_cases hjl:j<x.nx.length
    ·obtain⟨s,nb,FN,hs,rfl,hnb,x1⟩:=YO.out.at_ BW.out hjl
     have HS:=A3 (H8 hs);have dl:decide ((j:Int)<(x.nx.length:Int))=true:=AR A0;have hel:=pK G Cw.out k A0 (x.nx.take j);have arK:(Cf G k (x.nx.take j)).length≤30000000:=by
      have:(x.nx.take j).length≤5000:=by simp;omega
      omega
     clear hs hel;go_wp2_with (at_builtin;refine Kf _ rfl (.tmp 23) (.tmp 27) 57 rfl V0.heap.size 109 iP _ 2 16 uF fG bT cV Zk rfl AK u3 _ _ rfl (HO.out.alloc _) ⟨wr.heap.size,0,none⟩ 1 1 [.int .i64 (k:Int),.int .i64 s] rfl rfl (jA _ _ _ _) BS Bc A0 Hz ?_;intro v' W' hown' hgrow _ Ce);have⟨HN,Wc⟩:=AL hown' ((HB.out.alloc s2 _).grown hgrow Hz (fun k hk=>(HO.out.lt k hk).1));go_roundw;case rel=>
      refine⟨j+1,by omega,by go_num,?_,Wc.out⟩;rw [HS.out,abd,mS,FO];exact HN.out
     case measure=>exact Aa
    ·obtain rfl:j=x.nx.length:=by omega
     have dl:decide ((x.nx.length:Int)<(x.nx.length:Int))=false:=by simp
     rw [Hx] at HO;go_wp2_with fail;go_roundw;case rel=>
      refine⟨k+1,by omega,by go_num,?_,HB.out⟩;rw [←HX.out];exact HO.out
     case measure=>exact Aa
  ·obtain rfl:k=G.length:=by omega
   have dl:decide ((G.length:Int)<(G.length:Int))=false:=by simp
   go_wp2_with fail;go_ret;exact⟨⟨u3,rfl,vh HO.out⟩,BW.out⟩
structure Mr (w:World) (v:Value) (n:Nat) (cd:Nat→Int):Prop where
 wd:∀i,i<n→0≤cd i∧cd i<4294967296
 at_:∃A cap,v=.slice A n cap∧n≤cap∧cap≤maxLen∧(0<n→∃b off,A=some ⟨b,off,none⟩∧b<w.heap.size∧∀i,i<n→w.cell? ⟨b,off+i,none⟩=some (.int .u32 (cd i)))
theorem Mr.words {w:World} {v:Value} {n:Nat} {cd:Nat→Int} (h:Mr w v n cd) (hn:n≤1000000):Words w v n cd:=⟨hn,h.wd,h.at_⟩
theorem aaG {cs:List Value} (h:cs.length=4):∃c0 c1 c2 c3,cs=[c0,c1,c2,c3]:=by
 match cs,h with
 | [c0,c1,c2,c3],_=>exact⟨c0,c1,c2,c3,rfl⟩
theorem array4 {α:Type} {cs:Array α} (h:cs.size=4):∃c0 c1 c2 c3,cs=#[c0,c1,c2,c3]:=by
 obtain⟨l⟩:=cs;match l,h with
 | [c0,c1,c2,c3],_=>exact⟨c0,c1,c2,c3,rfl⟩
theorem u32_in {p:Int} (h:(Lit.int .u32 p).wf=true):0≤p∧p<4294967296:=by
 simp [Lit.wf] at h;have e1:IntKind.u32.min=0:=by decide
 have e2:IntKind.u32.max=4294967295:=by decide
 omega
theorem aq1:Tryz.prog.cellsOf 9=1:=by kernel_rfl
theorem amM:Tryz.prog.cellsOf 22=1:=by kernel_rfl
theorem ahY:Tryz.prog.cellsOf 23=1:=by kernel_rfl
theorem ao5:Tryz.prog.cellsOf 25=4:=by kernel_rfl
theorem trod_struct4 {H:Type} {enc:TypeId×Value→H} {P:Program} {w:World} {base:Nat} {spare:Nat→Bool} {held:Bool} {t:TypeId} {f0 f1 f2 f3:Field} {fuel:Nat} {cs:List Value} {x:DataW H×List MemPlace} (ht:P.underlying t=some (.struct #[f0,f1,f2,f3])) (h:DataW.trod enc P w base spare held fuel t cs=some x) :
  ∃y0 y1 y2 y3 n,DataW.trod enc P w base spare held n f0.type ((cs.drop f0.offset).take (P.cellsOf f0.type))=some y0∧DataW.trod enc P w base spare held n f1.type ((cs.drop f1.offset).take (P.cellsOf f1.type))=some y1∧
   DataW.trod enc P w base spare held n f2.type ((cs.drop f2.offset).take (P.cellsOf f2.type))=some y2∧DataW.trod enc P w base spare held n f3.type ((cs.drop f3.offset).take (P.cellsOf f3.type))=some y3:=by
 obtain⟨xs,n,_,rfl,hl,hlen,hf⟩:=DataW.trod_struct ht h;match xs,hlen with
 | [y0,y1,y2,y3],_=>exact⟨y0,y1,y2,y3,n,by simpa using hf 0 f0 rfl,by simpa using hf 1 f1 rfl,by simpa using hf 2 f2 rfl,by simpa using hf 3 f3 rfl⟩
section
variable {H:Type} {enc:TypeId×Value→H} {w:World} {base:Nat} {spare:Nat→Bool} {held:Bool}
theorem ao3 {fuel:Nat} {cs:List Value} {y:DataW H×List MemPlace} (h:DataW.trod enc Tryz.prog w base spare held fuel 22 cs=some y):∃v n cd,cs=[v]∧Mr w v n cd:=by
 obtain⟨v,len,rfl,A,cap,rfl,h1,h2,hc⟩:=Yy lf 1 A6 A0 h;obtain⟨l,hl,hp⟩:=Y0 (P:=fun i (x:Int)=>(0≤x∧x<4294967296)∧(0<len→∃b off,A=some ⟨b,off,none⟩∧b<w.heap.size∧w.cell? ⟨b,off+i,none⟩=some (.int .u32 x))) len (fun i hi=>by
  obtain⟨b,off,rfl,hb,hx⟩:=hc A0;obtain⟨cs,⟨n,y,htr⟩,_,hj⟩:=hx i hi;obtain⟨z,rfl,_,hw⟩:=NC uX htr;have:=hj 0 A0
  exact⟨z,u32_in hw,fun _=>⟨b,off,rfl,hb,by simpa using this⟩⟩)
 subst hl;refine⟨_,l.length,fun i=>l.getD i 0,rfl,fun i hi=>?_,A,cap,rfl,h1,h2,fun h0=>?_⟩
 ·have e:l.getD i 0=l[i]:=by simp [List.getD,Aj hi]
  show 0≤l.getD i 0∧l.getD i 0<4294967296;rw [e];exact (hp i _ (Aj hi)).1
 ·obtain⟨b,off,rfl,hb,hx⟩:=hc h0
  refine⟨b,off,rfl,hb,fun i hi=>?_⟩;obtain⟨_,h4⟩:=hp i _ (Aj hi);obtain⟨b',off',e,_,h5⟩:=h4 h0;cases e;rw [h5];simp [List.getD,Aj hi]
theorem anB {fuel:Nat} {cs:List Value} {y:DataW H×List MemPlace} (h:DataW.trod enc Tryz.prog w base spare held fuel 23 cs=some y):∃v l,cs=[v]∧Il w v l:=by
 obtain⟨v,len,rfl,A,cap,rfl,h1,h2,hc⟩:=Yy Tryz.underlying23 4 A6 A0 h;obtain⟨l,hl,hp⟩:=Y0 (P:=fun i (x:CP)=>x.nm.size≤maxLen∧(0<len→∃b off,A=some ⟨b,off,none⟩∧b<w.heap.size∧w.cell? ⟨b,off+i*4,none⟩=some (.string x.nm)∧w.cell? ⟨b,off+i*4+1,none⟩=some (.int .i64 x.st)∧w.cell? ⟨b,off+i*4+2,none⟩=some (.int .i64 x.en)∧w.cell? ⟨b,off+i*4+3,none⟩=some (.int .i64 x.da))) len (fun i hi=>by
  obtain⟨b,off,rfl,hb,hx⟩:=hc A0;obtain⟨cs,⟨n,y,htr⟩,hl,hj⟩:=hx i hi;obtain⟨y0,y1,y2,y3,n',g0,g1,g2,g3⟩:=trod_struct4 Tryz.underlying75 htr;obtain⟨c0,c1,c2,c3,rfl⟩:=aaG hl;simp only [ja,aq1,List.drop_zero,Er,Ew,List.take_zero] at g0 g1 g2 g3;obtain⟨z0,e0,_,hz0⟩:=mD Xm g0;obtain⟨z1,e1,_,_⟩:=NC CS g1;obtain⟨z2,e2,_,_⟩:=NC CS g2;obtain⟨z3,e3,_,_⟩:=NC CS g3;simp at e0 e1 e2 e3;subst e0 e1 e2 e3;refine⟨⟨z0,z1,z2,z3⟩,hz0,fun _=>⟨b,off,rfl,hb,?_,?_,?_,?_⟩⟩
  ·simpa using hj 0 A0
  ·simpa [UC] using hj 1 A0
  ·simpa [UC] using hj 2 A0
  ·simpa [UC] using hj 3 A0)
 subst hl;refine⟨_,l,rfl,fun e he=>?_,A,cap,rfl,h1,h2,fun h0=>?_⟩
 ·obtain⟨i,hi⟩:=LH.1 he
  exact (hp i e hi).1
 ·obtain⟨b,off,rfl,hb,hx⟩:=hc h0
  refine⟨b,off,rfl,hb,fun i x hi=>?_⟩;obtain⟨b',off',e,_,h5⟩:=(hp i x hi).2 h0;cases e;exact h5
theorem lS {r:Reach} {b0:Nat} {v:Value} {d:DataW H} {p:List MemPlace} (hv:Value.okWide Tryz.prog w r b0 25 v) (h:DataW.Trod enc Tryz.prog w base spare held 25 v d p) :
  ∃cv ev sh lk n cd AU,v=.agg #[cv,ev,.int .i64 sh,.int .i64 lk]∧Mr w cv n cd∧Il w ev AU:=by
 obtain⟨cs,rfl,hsz⟩:=okWide_struct Tryz.underlying25 hv;obtain⟨c0,c1,c2,c3,rfl⟩:=array4 (hsz.trans ao5);obtain⟨fuel,hf⟩:=h;obtain⟨y0,y1,y2,y3,n,g0,g1,g2,g3⟩:=trod_struct4 Tryz.underlying25 hf;simp only [Value.cells,amM,ahY,ja,List.drop_zero,Er,Ew,List.take_zero] at g0 g1 g2 g3;obtain⟨cv,m,cd,e0,hW⟩:=ao3 g0;obtain⟨ev,AU,e1,hE⟩:=anB g1;obtain⟨z2,e2,_,_⟩:=NC CS g2;obtain⟨z3,e3,_,_⟩:=NC CS g3;simp at e0 e1 e2 e3;subst e0 e1 e2 e3;exact⟨c0,c1,z2,z3,m,cd,AU,rfl,hW,hE⟩
end
inductive GR (G:List AV):Nat→Prop
 | start:GR G 0
 | step {b t:Nat} {x:AV}:GR G b→G[b]?=some x→(t:Int)∈x.nx→GR G t
abbrev eX (n:Nat) (sn:Nat→Bool):List Value:=(List.range n).map fun i=>.bool (sn i)
theorem yB (n:Nat) (sn:Nat→Bool) {p:Nat} (hp:p<n) (b:Bool):(eX n sn).set p (.bool b)=eX n (upd sn p b):=by
 apply JX;intro q;rw [IY];simp only [eX,ED,kT,Cr];by_cases e:p=q
 ·subst e
  rw [AE rfl,AE hp,Ev hp];simp [upd]
 ·rw [A9 e]
  by_cases hq:q<n
  ·rw [Ev hq]
   have:q≠p:=fun h=>e h.symm;simp [upd,this]
  ·rw [E0 (by simpa using hq)]
   rfl
theorem WY:(Tryz.prog.info? 4).map (fun i=>(i.zero,i.size,i.bytes))=some (some (.bool false),1,1):=by kernel_rfl
structure SM (w wr:World) (g n:Nat) (sn:Nat→Bool):Prop where
 A7:Below w.heap.size w wr
 row:wr.ownsRow w.heap.size 4 1 (.slice (some ⟨g,0,none⟩) n n) n (eX n sn)
theorem SM.cells {w wr:World} {g n:Nat} {sn:Nat→Bool} (h:SM w wr g n sn) {i:Nat} (hi:i<n):wr.cell? ⟨g,i,none⟩=some (.bool (sn i))∧wr.frozen? ⟨g,i,none⟩=false:=
 ⟨by rw [h.row.cellAt _ A0,Cr,Ev hi];rfl,h.row.frozenAt _⟩
theorem SM.set {w wr:World} {g n:Nat} {sn:Nat→Bool} (h:SM w wr g n sn) {i:Nat} (hi:i<n) (b:Bool):SM w (wr.setCell ⟨g,i,none⟩ (.bool b)) g n (upd sn i b):=
 ⟨h.A7.setCell (h.row.lt g rfl).1 _,by rw [←yB n sn hi b];exact (h.row.stored i (.bool b)).1⟩
structure RS (G:List AV) (sn:Nat→Bool):Prop where
 zero:sn 0=true
 sound:∀i,i<G.length→sn i=true→GR G i
theorem RS.add {G:List AV} {sn:Nat→Bool} (h:RS G sn) {b t:Nat} {x:AV} (hb:b<G.length) (hs:sn b=true) (hx:G[b]?=some x) (ht:(t:Int)∈x.nx):RS G (upd sn t true):=by
 refine⟨?_,fun i hi hs'=>?_⟩
 ·unfold upd;split;rfl;exact h.zero
 ·unfold upd at hs'
  split at hs'
  ·rename_i e;rw [e];exact GR.step (h.sound b hb hs) hx ht
  ·exact h.sound i hi hs'
theorem aia {l:List Int} (h:l.Nodup) (x:Int):(Jj l x).Nodup:=by
 unfold Jj;split
 ·exact h
 ·rename_i hx
  rw [cZ];exact⟨h,by simp,fun a ha b hb=>by simp at hb;subst hb;exact fun e=>hx (e▸ha)⟩
theorem vZ (L:List (Int×Int)) (S:List Int):(Hf L S).Nodup:=by
 have:∀(S l:List Int),l.Nodup→(S.foldl (fun l s=>Jj l (idx L s:Int)) l).Nodup:=by
  intro S;induction S with
  | nil=>intro l h;exact h
  | cons s S ih=>intro l h;rw [Me];exact ih _ (aia h _)
 exact this S [] AO
theorem yH {l:List Int} {x y:Int}:y∈Jj l x↔y∈l∨y=x:=by
 unfold Jj;split
 ·rename_i h
  constructor
  ·exact .inl
  ·rintro (h1|rfl)
   ·exact h1
   ·exact h
 ·simp
theorem nW (L:List (Int×Int)) (S:List Int) (y:Int):y∈Hf L S↔∃s∈S,y=(idx L s:Int):=by
 have:∀(S l:List Int),y∈(S.foldl (fun l s=>Jj l (idx L s:Int)) l)↔y∈l∨∃s∈S,y=(idx L s:Int):=by
  intro S;induction S with
  | nil=>intro l;simp
  | cons s S ih=>
   intro l;rw [Me,ih,yH];simp [or_assoc]
 have h:=this S [];simpa [Hf] using h
structure ES (c:Int→Ins) (st en:Int) (D:List Int) (L:List (Int×Int)):Prop where
 b:pQ c st D (en - st).toNat L
 mem:∀a,a∈D↔EO c st en a
 all:∀a∈D,∀t∈Ch (c a) a,t∈D
 st0:0≤st
 lt:st<en
theorem ES.of {c:Int→Ins} {st en:Int} {D:List Int} (h0:0≤st) (h1:st<en) (hR:Eb c st en D [] (-1)):ES c st en D (blk c st D (en - st).toNat):=by
 refine⟨YM c st D _,hR.mem h1,fun a ha t ht=>?_,h0,h1⟩;have hb:¬MV c st en a:=by
  rcases hR.b with h|h
  ·exact h.2 a ha
  ·have:=(hR.dr _ h.1).range _ _ _ h1
   omega
 have hin:st≤t∧t<en:=gQ fun h=>hb ⟨t,ht,h⟩;rcases hR.cl a ha t ht hin.1 hin.2 with h|h
 ·exact h
 ·cases h
section
variable {c:Int→Ins} {st en:Int} {D:List Int} {L:List (Int×Int)}
theorem ES.range (h:ES c st en D L) {a:Int} (ha:a∈D):st≤a∧a<en:=((h.mem a).1 ha).range _ _ _ h.lt
theorem ES.succ (h:ES c st en D L) {p:Int×Int} (hp:p∈L) {s:Int} (hs:s∈Ch (c (p.2 - 1)) (p.2 - 1)):s∈D∧∃q∈L,q.1=s:=by
 have hla:=h.b.last p hp;have Pj:=h.all _ hla s hs;have hin:=h.range Pj;refine⟨Pj,h.b.num s hin.1 fJ Pj ?_⟩;by_cases hbr:DF (c (p.2 - 1)).op=true
 ·rw [SZ]
  refine .inr ⟨_,hla,?_⟩;unfold Gx;rw [AE hbr];exact hs
 ·have:s=p.2:=by
   unfold Ch at hs;unfold DF at hbr;split at hs
   ·cases hs
   ·split at hs
    ·simp_all
    ·split at hs
     ·rename_i h;rcases h with h|h<;>simp [h] at hbr
     ·simp at hs;omega
  rw [this] at Pj hin ⊢;exact h.b.cl _ hp fJ Pj
theorem ES.next (h:ES c st en D L) {k:Nat} (hk:k<L.length):∀t∈IU c L k,0≤t∧t<(L.length:Int):=by
 intro t ht;unfold IU at ht;obtain⟨s,hs,rfl⟩:=(nW _ _ _).1 ht;have e1:L.getD k (0,0)=L[k]:=by simp [List.getD,Aj hk]
 unfold Nd at hs;rw [e1] at hs;obtain⟨_,hq⟩:=h.succ (Cn hk) hs;have:=(iE hq).2.1;omega
theorem Uz (c:Int→Ins) (L:List (Int×Int)) {k:Nat} (hk:k<L.length):(EF c L)[k]?=some ⟨(L[k]).1,(L[k]).2,IU c L k⟩:=by
 unfold EF;rw [Cr,Ev hk];simp [List.getD,Aj hk]
theorem RQ (c:Int→Ins) (L:List (Int×Int)):(EF c L).length=L.length:=by simp [EF]
theorem aby {n:Nat} {G:List AV} (h1:∀(k:Nat) (x:AV),G[k]?=some x→x.lo<x.hi∧x.nx.length≤2∧(∀t∈x.nx,0≤t∧t<(n:Int))∧x.nx.Nodup) (h2:∀x,G[0]?=some x→0≤x.lo) (h3:∀(k:Nat) (x y:AV),G[k]?=some x→G[k+1]?=some y→x.hi≤y.lo):∃z,De n 0 G z:=by
 have key:∀m,m≤G.length→∃z,De n 0 (G.take m) z∧(∀x,G[m]?=some x→z≤x.lo):=by
  intro m;induction m with
  | zero=>intro _;exact⟨0,rfl,h2⟩
  | succ m ih=>
   intro hm;obtain⟨z,hz,hl⟩:=ih A0;have hx:G[m]?=some G[m]:=Aj A0;obtain⟨a1,a2,a3,a4⟩:=h1 m _ hx;refine⟨G[m].hi,?_,fun y hy=>h3 m _ y hx hy⟩;rw [H8 hx];refine hz.snoc ⟨hl _ hx,a1,a2,a3,fun ⟨e1,e2⟩=>?_⟩;match BJ:G[m].nx,e1,e2,a4 with
   | [u,v],_,e2,a4=>simp at e2 a4;exact a4 e2
 obtain⟨z,hz,_⟩:=key G.length (AH _);rw [Hx] at hz;exact⟨z,hz⟩
theorem ao8 {nx:List Int} (h:nx.Nodup) (p k:Nat):K8 nx p k=if (p:Int)∈nx then [(k:Int)] else []:=by
 induction nx with
 | nil=>rfl
 | cons x nx ih=>
  obtain⟨h1,h2⟩:=List.nodup_cons.1 h;have ih:=ih h2;unfold K8 at ih ⊢;by_cases e:x=(p:Int)
  ·subst e
   rw [AE AO];simp only [aN,decide_true,N1,Vn];rw [ih,A9 h1]
  ·have e':(p:Int)≠x:=fun h=>e h.symm
   simp only [aN,e,decide_false,MZ,N0];rw [ih];simp [e']
theorem ar8 (c:Int→Ins) (L:List (Int×Int)):(List.range (EF c L).length).map (IP (EF c L) (EF c L).length [])=Je c L:=by
 unfold Je;rw [RQ];apply Q4;intro p _;unfold IP Pn Ry;have:K8 [] p L.length=[]:=rfl;rw [this,M8];have key:∀m,m≤L.length→(List.range m).flatMap (fun b=>K8 ((EF c L).getD b ⟨0,0,[]⟩).nx p b)=((List.range m).filter (fun b=>decide ((p:Int)∈IU c L b))).map (fun (b:Nat)=>(b:Int)):=by
  intro m;induction m with
  | zero=>intro _;rfl
  | succ m ih=>
   intro hm;rw [J5,QD,eA,Nx,ih A0];congr 1
   have e:(EF c L).getD m ⟨0,0,[]⟩=⟨(L[m]).1,(L[m]).2,IU c L m⟩:=by simp [List.getD,Uz c L (show m<L.length by omega)]
   simp only [JO,fD,M8,e];rw [ao8 (show (IU c L m).Nodup from vZ _ _)];by_cases hp:(p:Int)∈IU c L m
   ·rw [AE hp];simp [hp]
   ·rw [A9 hp];simp [hp]
 exact key L.length (AH _)
theorem ES.valid (h:ES c st en D L) (hst:st∈D):Ea (EF c L) (Je c L):=by
 have hn0:L≠[]:=h.b.ne hst fJ;refine⟨fun e=>hn0 ?_,by simp [Je,EF],?_,ar8 c L⟩
 ·have:=congrArg List.length e
  rw [RQ] at this;exact Zs.1 this
 ·rw [RQ]
  refine aby (fun k x hx=>?_) (fun x hx=>?_) (fun k x y hx hy=>?_)
  ·have hk:k<L.length:=by have:=(Bl.1 hx).1;rwa [RQ] at this
   rw [Uz c L hk] at hx;cases hx;refine⟨(h.b.lo _ (Cn hk)).2.1,EM (sA _ _) (eB _ _),h.next hk,vZ _ _⟩
  ·have hk:0<L.length:=by have:=(Bl.1 hx).1;rwa [RQ] at this
   rw [Uz c L hk] at hx;cases hx;have:=(h.b.lo _ (Cn hk)).1;have:=h.st0;simp only;omega
  ·have hk:k+1<L.length:=by have:=(Bl.1 hy).1;rwa [RQ] at this
   rw [Uz c L A0] at hx;rw [Uz c L hk] at hy;cases hx;cases hy;exact Qr.1 h.b.Ph k (k+1) A0 hk A0
end
section
variable {c:Int→Ins} {st en:Int} {D:List Int} {L:List (Int×Int)}
structure uy (c:Int→Ins) (st:Int) (D:List Int) (x:Int):Prop where
 ne:x≠st
 before:x - 1∈D
 br:DF (c (x - 1)).op=false
 halt:(c (x - 1)).op≠1
 unlock:(c (x - 1)).op≠29
 lock:(c x).op≠28
theorem ES.inner (h:ES c st en D L) {x:Int} (hx:x∈D) (hl:EN c st D x=false):uy c st D x:=by
 have hnl:¬Og c st D x:=fun hh=>by rw [(SZ c st D x).2 hh] at hl;cases hl
 have hns:x≠st:=fun e=>hnl (.inl e);have key:∃a,a∈D∧x∈Ch (c a) a:=by
  have:=(h.mem x).1 hx;cases this with
  | start=>exact absurd rfl hns
  | step h1 h2 h3 h4=>exact⟨_,(h.mem _).2 h1,h2⟩
 obtain⟨a,ha,hs⟩:=key;have hbr:DF (c a).op=false:=by
  rcases hb:DF (c a).op
  ·rfl
  ·exact absurd (.inr ⟨a,ha,by unfold Gx;rw [AE hb];exact hs⟩) hnl
 have hsa:(c a).op≠1∧x=a+1:=by
  unfold Ch at hs;unfold DF at hbr;split at hs
  ·cases hs
  ·rename_i h1
   refine⟨h1,?_⟩;split at hs
   ·rename_i h2;simp [h2] at hbr
   ·split at hs
    ·rename_i h2;rcases h2 with h2|h2<;>simp [h2] at hbr
    ·simpa using hs
 obtain⟨h1,rfl⟩:=hsa;have e:a+1 - 1=a:=by omega
 refine⟨hns,by rw [e];exact ha,by rw [e];exact hbr,by rw [e];exact h1,?_,fun h28=>?_⟩
 ·rw [e]
  intro h29;exact hnl (.inr ⟨a,ha,by unfold Gx;rw [A9 (by simp [hbr]),A9 A0,AE h29];simp⟩)
 ·refine hnl (.inr ⟨a+1,hx,?_⟩)
  have hb2:DF (c (a+1)).op=false:=by simp [DF,h28]
  unfold Gx;rw [A9 (by simp [hb2]),AE h28];simp
theorem aD (hg:∀x∈D,EN c st D x=false→x≠st∧x - 1∈D):∀m:Nat,(∀p∈blk c st D m,∀x,p.1<x→x<p.2→x∈D∧EN c st D x=false)∧(0<m→st+(m:Int) - 1∈D→∃M a,blk c st D m=M++[(a,st+(m:Int))])
 | 0=>⟨by simp [blk],fun h=>by omega⟩
 | m+1=>by
  obtain⟨i1,i2⟩:=aD hg m;have e0:st+((m+1:Nat):Int) - 1=st+m:=by omega
  have e1:st+((m+1:Nat):Int)=st+m+1:=by omega
  rw [e0,e1];unfold blk;by_cases hD:st+(m:Int)∈D
  ·rw [AE hD]
   by_cases hl:EN c st D (st+m)=true
   ·rw [AE hl]
    refine⟨fun p hp x h1 h2=>?_,fun _ _=>⟨_,_,rfl⟩⟩;rcases CG.1 hp with hp|hp
    ·exact i1 p hp x h1 h2
    ·simp at hp;subst hp;simp only at h1 h2;omega
   ·have hl':EN c st D (st+m)=false:=by simpa using hl
    rw [A9 hl];obtain⟨hn,hb⟩:=hg _ hD hl';have hm:0<m:=by
     rcases TC m with e|e
     ·subst e;simp at hn
     ·exact e
    obtain⟨M,a,hM⟩:=i2 hm hb;rw [hM,ZV];refine⟨fun p hp x h1 h2=>?_,fun _ _=>⟨_,_,rfl⟩⟩;rcases CG.1 hp with hp|hp
    ·exact i1 p (by rw [hM];simp [hp]) x h1 h2
    ·simp at hp;subst hp
     simp only at h1 h2;by_cases ex:x=st+m
     ·rw [ex];exact⟨hD,hl'⟩
     ·exact i1 (a,st+m) (by rw [hM];simp) x h1 Uo
  ·rw [A9 hD]
   exact⟨i1,fun _ h=>absurd h hD⟩
theorem nw {a t:Int} (hbr:DF (c a).op=false) (hs:t∈Ch (c a) a):t=a+1∧(c a).op≠1:=by
 unfold Ch at hs;unfold DF at hbr;split at hs
 ·cases hs
 ·rename_i h1
  refine⟨?_,h1⟩;split at hs
  ·rename_i h2;simp [h2] at hbr
  ·split at hs
   ·rename_i h2;rcases h2 with h2|h2<;>simp [h2] at hbr
   ·simpa using hs
theorem wM (hg:∀x∈D,EN c st D x=false→x≠st∧x - 1∈D):∀m:Nat,∀a∈D,st≤a→a<st+(m:Int)→∃p∈blk c st D m,p.1≤a∧a<p.2
 | 0,a,_,h1,h2=>by omega
 | m+1,a,ha,h1,h2=>by
  have ih:=wM hg m;unfold blk;by_cases hD:st+(m:Int)∈D
  ·rw [AE hD]
   by_cases hl:EN c st D (st+m)=true
   ·rw [AE hl]
    by_cases e:a=st+m
    ·exact⟨(st+m,st+m+1),by simp,by simp only;omega,by simp only;omega⟩
    ·obtain⟨p,hp,q⟩:=ih a ha h1 A0
     exact⟨p,by simp [hp],q⟩
   ·have hl':EN c st D (st+m)=false:=by simpa using hl
    rw [A9 hl];obtain⟨hn,hb⟩:=hg _ hD hl';have hm:0<m:=by
     rcases TC m with e|e
     ·subst e;simp at hn
     ·exact e
    obtain⟨M,a',hM⟩:=(aD hg m).2 hm hb;have hlo:=(YM c st D m).lo (a',st+m) (by rw [hM];simp);rw [hM,ZV];by_cases e:a=st+m
    ·exact⟨(a',st+m+1),by simp,by simp only at hlo ⊢;omega,by simp only;omega⟩
    ·obtain⟨p,hp,q1,q2⟩:=ih a ha h1 A0
     rw [hM] at hp;rcases CG.1 hp with hp|hp
     ·exact⟨p,by simp [hp],q1,q2⟩
     ·simp at hp;subst hp
      exact⟨(a',st+m+1),by simp,q1,by simp only at q2 ⊢;omega⟩
  ·rw [A9 hD]
   by_cases e:a=st+m
   ·rw [e] at ha;exact absurd ha hD
   ·exact ih a ha h1 A0
theorem ES.adp (h:ES c st en D (blk c st D (en - st).toNat)) {p:Int×Int} (hp:p∈blk c st D (en - st).toNat) {x:Int} (h1:p.1<x) (h2:x<p.2):x∈D∧EN c st D x=false:=
 (aD (c:=c) (st:=st) (D:=D) (fun x hx hl=>⟨(h.inner hx hl).ne,(h.inner hx hl).before⟩) (en - st).toNat).1 p hp x h1 h2
theorem ES.cover (h:ES c st en D (blk c st D (en - st).toNat)) {a:Int} (ha:a∈D):∃p∈blk c st D (en - st).toNat,p.1≤a∧a<p.2:=by
 have hr:=h.range ha;exact wM (c:=c) (st:=st) (D:=D) (fun x hx hl=>⟨(h.inner hx hl).ne,(h.inner hx hl).before⟩) _ a ha hr.1 A0
theorem ES.Af (h:ES c st en D (blk c st D (en - st).toNat)) {p:Int×Int} (hp:p∈blk c st D (en - st).toNat) {x:Int} (h1:p.1<x) (h2:x<p.2):x∈D∧uy c st D x:=by
 obtain⟨a,b⟩:=(aD (c:=c) (st:=st) (D:=D) (fun x hx hl=>⟨(h.inner hx hl).ne,(h.inner hx hl).before⟩) (en - st).toNat).1 p hp x h1 h2;exact⟨a,h.inner a b⟩
theorem ES.uniq (h:ES c st en D L) {i j:Nat} (hi:i<L.length) (hj:j<L.length) (e:(L[i]).1=(L[j]).1):i=j:=by
 rcases Nat.lt_trichotomy i j with hlt|rfl|hlt
 ·have:=Qr.1 h.b.Ph i j hi hj hlt
  have:=(h.b.lo _ (Cn hi)).2.1;omega
 ·rfl
 ·have:=Qr.1 h.b.Ph j i hj hi hlt
  have:=(h.b.lo _ (Cn hj)).2.1;omega
theorem apd (h:ES c st en D L) {i:Nat} (hi:i<L.length):idx L (L[i]).1=i:=by
 obtain⟨_,h2,h3⟩:=iE (L:=L) (x:=(L[i]).1) ⟨L[i],Cn hi,rfl⟩;have e:L.getD (idx L (L[i]).1) (0,0)=L[idx L (L[i]).1]:=by simp [List.getD,Aj h2]
 rw [e] at h3;exact h.uniq h2 hi h3
theorem ES.first (h:ES c st en D L) (hst:st∈D) (h0:0<L.length):(L[0]).1=st:=by
 obtain⟨q,hq,e⟩:=h.b.num st (JE _) fJ hst (jh c st D);obtain⟨j,hj,ej⟩:=Zp hq;rcases TC j with e0|e0
 ·subst e0;rw [ej];exact e
 ·have:=Qr.1 h.b.Ph 0 j h0 hj e0
  have:=(h.b.lo _ (Cn h0));rw [ej] at *;omega
end
theorem ES.reached {c:Int→Ins} {st en:Int} {D:List Int} {L:List (Int×Int)} (hL:blk c st D (en - st).toNat=L) (h:ES c st en D L) (hst:st∈D):∀i,i<(EF c L).length→GR (EF c L) i:=by
 have h':ES c st en D (blk c st D (en - st).toNat):=by rw [hL];exact h
 have hn0:0<L.length:=Ic.2 (h.b.ne hst fJ);have key:∀a,EO c st en a→∀i (hi:i<L.length),(L[i]).1≤a→a<(L[i]).2→GR (EF c L) i:=by
  intro a ha;induction ha with
  | start=>
   intro i hi h1 h2;have l0:=h.first hst hn0;have li:=h.b.lo _ (Cn hi);have:i=0:=h.uniq hi hn0 A0;subst this;exact GR.start
  | @step a t h1 h2 h3 h4 ih=>
   intro i hi hl hu;have Us:=(h.mem a).2 h1;by_cases aoh:t=(L[i]).1
   ·-- the block of a
    obtain⟨k,hk,hka,hkb⟩:∃(k:Nat) (hk:k<L.length),(L[k]).1≤a∧a<(L[k]).2:=by
     obtain⟨p,hp,q1,q2⟩:=h'.cover Us;rw [hL] at hp;obtain⟨k,hk,ek⟩:=Zp hp;exact⟨k,hk,by rw [ek];exact q1,by rw [ek];exact q2⟩
    have hg:=ih k hk hka hkb;by_cases I8:a=(L[k]).2 - 1
    ·refine GR.step hg (Uz c L hk) ?_
     simp only;unfold IU;rw [nW];refine⟨t,?_,by rw [aoh,apd h hi]⟩;unfold Nd;have e1:L.getD k (0,0)=L[k]:=by simp [List.getD,Aj hk]
     rw [e1,← I8];exact h2
    ·exfalso
     have hin:=h'.Af (p:=L[k]) (by rw [hL];exact Cn hk) (x:=a+1) A0 A0;have hb:=hin.2.br;rw [show a+1 - 1=a by omega] at hb;have ht:=(nw hb h2).1;rcases Nat.lt_trichotomy i k with hlt|rfl|hlt
     ·have:=Qr.1 h.b.Ph i k hi hk hlt
      have:=(h.b.lo _ (Cn hi)).2.1;omega
     ·omega
     ·have:=Qr.1 h.b.Ph k i hk hi hlt
      omega
   ·obtain⟨ard,r9⟩:=h'.adp (p:=L[i]) (by rw [hL];exact Cn hi) (x:=t) A0 hu
    have hbr:DF (c a).op=false:=by
     rcases hb:DF (c a).op
     ·rfl
     ·have:EN c st D t=true:=(SZ c st D t).2 (.inr ⟨a,Us,by unfold Gx;rw [AE hb];exact h2⟩)
      rw [this] at r9;cases r9
    have ht:=(nw hbr h2).1;exact ih i hi A0 A0
 intro i hi;rw [RQ] at hi;have PY:=h.b.lead _ (Cn hi);have hlo:=h.b.lo _ (Cn hi);exact key _ ((h.mem _).1 PY.1) i hi (JE _) hlo.2.1
section
variable {c c':Int→Ins} {st en:Int}
theorem rM (hlt:st<en) (h:∀a,st≤a→a<en→c a=c' a) {a:Int} (ha:EO c st en a):EO c' st en a:=by
 induction ha with
 | start=>exact .start
 | step h1 h2 h3 h4 ih=>
  have hr:=h1.range _ _ _ hlt;exact .step ih (by rw [←h _ hr.1 hr.2];exact h2) h3 h4
theorem aei (hlt:st<en) (h:∀a,st≤a→a<en→c a=c' a) (a:Int):EO c st en a↔EO c' st en a:=
 ⟨rM hlt h,rM hlt (fun a h1 h2=>(h a h1 h2).symm)⟩
theorem yf (h:∀a,st≤a→a<en→c a=c' a) {a:Int} (h1:st≤a) (h2:a<en):MV c st en a↔MV c' st en a:=by
 unfold MV;rw [h a h1 h2]
theorem Eb.same {D D':List Int} {bad qQ:Int} (h0:0≤st) (hlt:st<en) (h:∀a,st≤a→a<en→c a=c' a) (hR:Eb c st en D [] bad) (P5:Eb c' st en D' [] qQ):(∀x,x∈D↔x∈D')∧bad=qQ:=by
 have hm:∀x,x∈D↔x∈D':=fun x=>by rw [hR.mem hlt,P5.mem hlt,aei hlt h]
 have hb:∀x,x∈D→(MV c st en x↔MV c' st en x):=fun x hx=>by
  have:=(hR.dr x hx).range _ _ _ hlt;exact yf h this.1 this.2
 refine⟨hm,?_⟩;rcases hR.b with⟨e,h1⟩|⟨e,h1,h2⟩<;>rcases P5.b with⟨e',h1'⟩|⟨e',h1',h2'⟩
 ·rw [e,e']
 ·exact absurd ((hb _ ((hm _).2 e')).2 h1') (h1 _ ((hm _).2 e'))
 ·exact absurd ((hb _ e).1 h1) (h1' _ ((hm _).1 e))
 ·have a1:=h2 _ ((hm _).2 e') ((hb _ ((hm _).2 e')).2 h1')
  have a2:=h2' _ ((hm _).1 e) ((hb _ e).1 h1);omega
theorem ar9 {D:List Int} (h:∀a∈D,c a=c' a) (x:Int):EN c st D x=EN c' st D x:=by
 unfold EN;congr 1
 apply OI.2;simp only [mj,DK];constructor
 ·rintro⟨a,ha,hx⟩;exact⟨a,ha,by rw [←h a ha];exact hx⟩
 ·rintro⟨a,ha,hx⟩;exact⟨a,ha,by rw [h a ha];exact hx⟩
theorem qY {D:List Int} (h:∀a∈D,c a=c' a):∀m,blk c st D m=blk c' st D m
 | 0=>rfl
 | m+1=>by
  unfold blk;rw [qY h m,ar9 h]
theorem zF {D D':List Int} (hm:∀x,x∈D↔x∈D') (h:∀a∈D,c a=c' a) (m:Nat):blk c st D m=blk c' st D' m:=by
 rw [qY h m,mG c' st hm m]
theorem vT {L:List (Int×Int)} (h:∀p∈L,c (p.2 - 1)=c' (p.2 - 1)) {k:Nat} (hk:k<L.length):IU c L k=IU c' L k:=by
 unfold IU Nd;have e:L.getD k (0,0)=L[k]:=by simp [List.getD,Aj hk]
 rw [e,h _ (Cn hk)]
theorem apK {L:List (Int×Int)} (h:∀p∈L,c (p.2 - 1)=c' (p.2 - 1)):EF c L=EF c' L:=by
 unfold EF;apply Q4;intro k hk;rw [vT h (J9.1 hk)]
theorem aq6 {L:List (Int×Int)} (h:∀p∈L,c (p.2 - 1)=c' (p.2 - 1)):Je c L=Je c' L:=by
 unfold Je;apply Q4;intro p hp;unfold Ry;congr 1
 apply List.filter_congr;intro b hb;rw [vT h (J9.1 hb)]
end
structure Res where
 G:List AV
 P:List (List Int)
 at_:Int
 er:Int
inductive Out (c:Int→Ins) (st en:Int):Res→Prop
 | bad (D:List Int) (bad:Int) (h0:0≤bad) (h:Eb c st en D [] bad):Out c st en ⟨[],[],bad,10⟩
 | ok (D:List Int) (h:Eb c st en D [] (-1)):Out c st en ⟨EF c (blk c st D (en - st).toNat),Je c (blk c st D (en - st).toNat),-1,0⟩
theorem Out.same {c c':Int→Ins} {st en:Int} {r r':Res} (h0:0≤st) (hlt:st<en) (hc:∀a,st≤a→a<en→c a=c' a) (h:Out c st en r) (h':Out c' st en r'):r=r':=by
 have eY:∀(D D':List Int) (b b':Int),Eb c st en D [] b→Eb c' st en D' [] b'→(∀x,x∈D↔x∈D')∧b=b':=fun D D' b b' h1 h2=>Eb.same h0 hlt hc h1 h2;cases h with
 | bad D b hb hR=>
  cases h' with
  | bad D' b' hb' P5=>rw [(eY _ _ _ _ hR P5).2]
  | ok D' P5=>have:=(eY _ _ _ _ hR P5).2;omega
 | ok D hR=>
  cases h' with
  | bad D' b' hb' P5=>have:=(eY _ _ _ _ hR P5).2;omega
  | ok D' P5=>
   obtain⟨hm,_⟩:=eY _ _ _ _ hR P5;have hD:∀a∈D,c a=c' a:=fun a ha=>by
    have:=(hR.dr a ha).range _ _ _ hlt;exact hc a this.1 this.2
   rw [←zF hm hD];have hL:∀p∈blk c st D (en - st).toNat,c (p.2 - 1)=c' (p.2 - 1):=fun p hp=>hD _ ((YM c st D _).last p hp);rw [apK hL,aq6 hL]
end
end Go.Proofs.YtlmgkipmfgijiaaGreatDoor
