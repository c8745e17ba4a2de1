/-
  What is proved here: parts bKc.
-/
import Derived.Test.YtlmgkipmfgijiaaGreatDoorVa
import Derived.Test.YtlmgkipmfgijiaaGreatDoorVj
import Derived.Test.YtlmgkipmfgijiaaGreatDoorVb
import Derived.Laws.CopyOwn
import Derived.Test.YtlmgkipmfgijiaaGreatDoorVi
import Derived.Laws.MakeOwn
import Derived.Handy
import Derived.Test.YtlmgkipmfgijiaaGreatDoorVd
namespace Go.Proofs.YtlmgkipmfgijiaaGreatDoor
set_option linter.unusedVariables false
set_option linter.unusedSimpArgs false
set_option maxRecDepth 100000
set_option maxHeartbeats 8000000
open Go.RowKit
section
open Go.ChangeShapes Go.WideShapes Go.ChangeAt Go.RowKit
def UR (w:World):Prop:=1<w.heap.size∧∀k,2≤k→k≤13→w.cell? ⟨1,k,none⟩=some (.int .u8 (Ru (k:Int)))
theorem UR.below {w w':World} (h:UR w) (b:Below w.heap.size w w'):UR w':=⟨F7 h.1 b.size,fun k h1 h2=>(b.cell (p:=⟨1,k,none⟩) h.1).trans (h.2 k h1 h2)⟩
theorem ae8:∀k,k<30→(FO k).PE≤15∧(FO k).Oz≤15∧(FO k).Nw≤15∧-131072≤OM k∧PB k≤131071∧(k=16→OM k=0∧PB k=31):=by decide
theorem att (xb sb:Nat) (I:Ins) (k:Nat) (hI:Good I k) (lk:Int) (s:St) (hpc:0≤s.pc∧s.pc≤1000000) (dl:List Int) (sv:Value) (sl:List Int) (pv:Value) (Sp:Nat→Prop) (Rp:World→Prop) (w:World)
  (hx:w.heap[xb]?=some (.cells (Bo I s.pc false (-1) 0 sb (s.pc+1)) 141 (0,0))) (hJ:DG w sb s dl sv sl) (Ta:¬Jb sb s.d sv xb) (hT:UR w) (HP:Port w pv Sp Rp) (QT:¬Sp xb) (hsj:∀k,Jb sb s.d sv k→¬Sp k) :
  Calls Tryz.prog 57 #[.pointer (some ⟨xb,0,none⟩),.int .i64 lk,sv,pv] w (GI w xb sb I lk s dl sv sl Sp Rp):=by
 obtain⟨op,ia,ib,ic,im⟩:=I;obtain⟨h1,h2,⟨a1,a2⟩,⟨b1,b2⟩,⟨c1,c2⟩,i1,i2⟩:=hI;obtain⟨s1,s2,s3,s4,s5,s6⟩:=ae8 k h2;simp only at h1 a1 a2 b1 b2 c1 c2 i1 i2;subst h1;obtain⟨a,rfl⟩:∃a:Nat,ia=(a:Int):=⟨ia.toNat,by omega⟩;obtain⟨b,rfl⟩:∃b:Nat,ib=(b:Int):=⟨ib.toNat,by omega⟩;obtain⟨c,rfl⟩:∃c:Nat,ic=(c:Int):=⟨ic.toNat,by omega⟩;have ha:a<16:=by omega
 have hb:b<16:=by omega
 have hc:c<16:=by omega
 have him : -131072≤im∧im≤131071:=by omega
 exact abg xb sb (k:Int) im lk a b c ha hb hc him s hpc dl sv sl pv Sp Rp w hx hJ Ta A0 (fun e=>by have:=s6 A0;omega) hT.2 hT.1 HP QT hsj
def VV (AO:List Bt) (lk:Int) (k:Nat) (s:St) (dn:Nat):Bool:=decide ((dn:Int)=(AO.getD k ⟨⟨#[]⟩,0,0,0⟩).da) && decide (s.r.getD 0 0=0) && decide (-1≤s.held) && (decide (s.held<0) || decide (s.held<lk))
theorem atz (cv ev:Value) (sh lk:Int) (AO:List Bt) (k:Nat) (e:Bt) (sb:Nat) (s:St) (dl:List Int) (sv:Value) (sl:List Int) (w:World) (HE:IZ w ev AO) (he:AO[k]?=some e) (hJ:DG w sb s dl sv sl) :
  Calls Tryz.prog 56 #[.agg #[cv,ev,.int .i64 sh,.int .i64 lk],.int .i64 (k:Int),.pointer (some ⟨sb,0,none⟩)] w fun x w'=>x=.returned (.bool (VV AO lk k s dl.length))∧Below w.heap.size w w':=by
 have hk:=(Bc.1 he).1;obtain⟨EA,CV,hev,he1,he2,N5⟩:=HE.at_;obtain⟨eb,IB,rfl,hbl,hc⟩:=N5 A0;obtain⟨e0,e1,e2,e3⟩:=hc k e he;subst hev;have Pq:VV AO lk k s dl.length=(decide ((dl.length:Int)=e.da) && decide (s.r.getD 0 0=0) && decide (-1≤s.held) && (decide (s.held<0) || decide (s.held<lk))):=by
  unfold VV;rw [show AO.getD k ⟨⟨#[]⟩,0,0,0⟩=e by simp [List.getD,he]]
 have h63:AO.length≤2 ^ 63 - 1:=by unfold maxLen at he2;omega
 obtain⟨W,hW⟩:=A8 (w.alloc (.cells #[cv,.slice (some ⟨eb,IB,none⟩) AO.length CV,.int .i64 sh,.int .i64 lk] 25));have b0:Below w.heap.size w W:=hW▸(AV _ _).alloc (AH _) _;have k0:W.heap[w.heap.size]?=some (.cells #[cv,.slice (some ⟨eb,IB,none⟩) AO.length CV,.int .i64 sh,.int .i64 lk] 25):=by rw [←hW];exact AY _ _
 have w1:W.cell? ⟨w.heap.size,1,none⟩=some (.slice (some ⟨eb,IB,none⟩) AO.length CV):=by simp [World.cell?,k0]
 have w3:W.cell? ⟨w.heap.size,3,none⟩=some (.int .i64 lk):=by simp [World.cell?,k0]
 have lw:w.heap.size<W.heap.size:=Ak k0;have Xv:=hJ.later b0;have E3:W.cell? ⟨eb,IB+k*4+3,none⟩=some (.int .i64 e.da):=by rw [b0.cell (p:=⟨eb,IB+k*4+3,none⟩) hbl];exact e3
 have leb:eb<W.heap.size:=by have:=b0.size;omega
 have m17:=Xv.m.dat;have m0:=Xv.m.A7 (k:=0) AP;have m19:=Xv.m.held;have lsb:=Xv.m.lt;obtain⟨dA,Ik,YV⟩:∃dA Ik,s.d=.slice dA dl.length Ik:=by
  rcases hJ.d.2 with⟨h,h'⟩|⟨g,cap,cur,h,_⟩
  ·exact⟨_,_,by rw [h,h']⟩
  ·exact⟨_,_,h⟩
 rw [YV] at m17;obtain⟨r0,hr0⟩:=A8 (s.r.getD 0 0);obtain⟨hd,E5⟩:=A8 s.held;obtain⟨dn,hdn⟩:=A8 dl.length;rw [hdn];obtain⟨da,hda⟩:=A8 e.da;rw [hr0] at m0 Pq;rw [E5] at m19 Pq;rw [hdn] at m17 Pq;rw [hda] at E3 Pq;have⟨HFE,B0⟩:=AQ Pq b0;have d1:decide ((0:Int)≤(k:Int))=true:=Ac A0;have d2:decide ((k:Int)<(AO.length:Int))=true:=Ac A0;have d3:decide (k<AO.length)=true:=Ac hk;have d4:decide (AO.length≤k)=false:=Ad A0;have hki:(k:Int)<(AO.length:Int):=by omega
 clear hJ Xv hc e0 e1 e2 e3 he HE N5 k0 b0 Pq hr0 E5 hdn hda YV;go_enter Tryz.func56,Tryz.ntmps56;go_upto_region 1 with fail;clear hW;have key:∀(y:Ext W) (r:Bool),r=(decide ((dn:Int)=da) && decide (r0=0) && decide (-1≤hd) && (decide (hd<0) || decide (hd<lk)))→(Ending.returned (.bool r)=Ending.returned (.bool (VV AO lk k s dn))∧Below w.heap.size w y.w):=fun y r h=>⟨by rw [h,HFE.out],Ext.below B0.out B0.out.size y⟩;by_cases c1:(dn:Int)=da;case neg=>
  have f1:((dn:Int)==da)=false:=by simpa using c1
  have g1:=Ad c1;clear c1;refine C7 A4 A4 ?_;repeat (go_big_quiet_step (fail))
  refine BD ?_;rintro _ ⟨y,rfl⟩;go_wp2_with fail;go_ret;exact key y _ (by simp only [g1];simp)
 have f1:((dn:Int)==da)=true:=by simpa using c1
 have g1:=Ac c1;clear c1;by_cases c2:r0=0;case neg=>
  have f2:(r0==0)=false:=by simpa using c2
  have g2:=Ad c2;clear c2;refine C7 A4 A4 ?_;repeat (go_big_quiet_step (fail))
  refine BD ?_;rintro _ ⟨y,rfl⟩;go_wp2_with fail;go_ret;exact key y _ (by simp only [g1,g2];simp)
 subst c2;have g2:decide ((0:Int)=0)=true:=by simp
 by_cases c3 : -1≤hd;case neg=>
  have f3:decide (-1≤hd)=false:=Ad c3;clear c3;refine C7 A4 A4 ?_;repeat (go_big_quiet_step (fail))
  refine BD ?_;rintro _ ⟨y,rfl⟩;go_wp2_with fail;go_ret;exact key y _ (by simp only [g1,g2,f3];simp)
 have f3:decide (-1≤hd)=true:=Ac c3;clear c3;by_cases c4:hd<0;case pos=>
  have f4:decide (hd<0)=true:=Ac c4;clear c4;refine C7 A4 A4 ?_;repeat (go_big_quiet_step (fail))
  refine BD ?_;rintro _ ⟨y,rfl⟩;go_wp2_with fail;go_ret;exact key y _ (by simp only [g1,g2,f3,f4];simp)
 have f4:decide (hd<0)=false:=Ad c4;clear c4;by_cases c5:hd<lk;case pos=>
  have f5:decide (hd<lk)=true:=Ac c5;clear c5;refine C7 A4 A4 ?_;repeat (go_big_quiet_step (fail))
  refine BD ?_;rintro _ ⟨y,rfl⟩;go_wp2_with fail;go_ret;exact key y _ (by simp only [g1,g2,f3,f4,f5];simp)
 have f5:decide (hd<lk)=false:=Ad c5;clear c5;refine C7 A4 A4 ?_;repeat (go_big_quiet_step (fail))
 refine BD ?_;rintro _ ⟨y,rfl⟩;go_wp2_with fail;go_ret;exact key y _ (by simp only [g1,g2,f3,f4,f5];simp)
def yx (I:Ins) (pc:Int) (tk:Bool) (ad vl:Int):List Value:=[.int .u8 I.op,.int .i64 I.a,.int .i64 I.b,.int .i64 I.c,.int .i64 I.AD,.int .i64 pc,.bool tk,.int .i64 ad,.int .i32 vl]
theorem Port.later {w W:World} {pv:Value} {Sp:Nat→Prop} {Rp:World→Prop} (h:Port w pv Sp Rp) (b:Below w.heap.size w W):Port W pv Sp Rp:=
 ⟨fun k hk=>F7 (h.old k hk) b.size,h.st,by
  rcases h.fn with h1|⟨fid,caps,h1,h2,h3,h4⟩
  ·exact .inl h1
  ·exact .inr ⟨fid,caps,h1,h2,h3,fun x W' hW=>h4 x W' (b.trans (hW.mono b.size))⟩⟩
theorem asB (w:World) (g:Nat) (c:Array Value):Fr (· = g) w (w.setRow g c):=
 ⟨rfl,rfl,rfl,by simp [World.setRow],fun k h1 h2=>by simp [World.setRow,gj];intro e;exact absurd e.symm h2⟩
theorem EM.dat {I:Ins} {lk:Int} {s:St} {dl sl:List Int} {nx:Int} {s':St} {DN sl':List Int} (h:EM I lk s dl sl nx s' DN sl'):s'.d=s.d:=by
 cases h<;>rfl
def uj (w:World) (sb:Nat) (cd:Nat→Int) (e:Bt) (lk:Int) (s:St) (dl:List Int) (sv:Value) (sl:List Int) (Sp:Nat→Prop) (Rp:World→Prop) (x:Ending) (w':World):Prop:=
 (∃er,er≠0∧x=.returned (.tuple #[.agg #[.int .u8 0,.int .i64 0,.int .i64 0,.int .i64 0,.int .i64 0,.int .i64 0,.bool false,.int .i64 0,.int .i32 0],.int .i64 er])∧Below w.heap.size w w')∨
 (∃nx tk ad vl s' DN sl',s.hal=false∧e.st≤s.pc∧s.pc<e.en∧(Ba (cd s.pc.toNat)).2=0∧EM (AK cd s.pc) lk s dl sl nx s' DN sl'∧((AK cd s.pc).op=27→vl=A7 s (AK cd s.pc).a)∧
  x=.returned (.tuple #[.agg (yx (AK cd s.pc) s.pc tk ad vl).toArray,.int .i64 0])∧DG w' sb { s' with pc:=nx } DN sv sl'∧Fr (fun k=>Jb sb s.d sv k∨Sp k) w w'∧(Fr (Jb sb s.d sv) w w'∨Rp w'))
theorem aub (cv ev:Value) (sh lk:Int) (n:Nat) (cd:Nat→Int) (AO:List Bt) (k:Nat) (e:Bt) (sb:Nat) (s:St) (dl:List Int) (sv:Value) (sl:List Int) (pv:Value) (Sp:Nat→Prop) (Rp:World→Prop) (w:World) (T:CO w) (OT:UR w)
  (HW:Pj w cv n cd) (hn:n≤1000000) (HE:IZ w ev AO) (he:AO[k]?=some e) (hJ:DG w sb s dl sv sl) (HP:Port w pv Sp Rp) (hsj:∀k,Jb sb s.d sv k→¬Sp k) :
  Calls Tryz.prog 27 #[.agg #[cv,ev,.int .i64 sh,.int .i64 lk],.int .i64 (k:Int),.pointer (some ⟨sb,0,none⟩),sv,pv] w (uj w sb cd e lk s dl sv sl Sp Rp):=by
 have hk:=(Bc.1 he).1;obtain⟨EA,CV,hev,he1,he2,N5⟩:=HE.at_;obtain⟨eb,IB,rfl,hbl,hc⟩:=N5 A0;obtain⟨A,cap,hcv,hc1,hc2,hcd⟩:=HW.at_;have⟨Mw,N0,HT,HO,HJ,Kj,Iu,RV⟩:=OI HW HE T OT hJ he HP hsj;have h63:AO.length≤2 ^ 63 - 1:=by unfold maxLen at he2;omega
 subst hcv hev;obtain⟨W,hW⟩:=A8 ((w.alloc (.cells #[.slice A n cap,.slice (some ⟨eb,IB,none⟩) AO.length CV,.int .i64 sh,.int .i64 lk] 25)).alloc (.cells #[.int .u8 0,.int .i64 0,.int .i64 0,.int .i64 0,.int .i64 0,.int .i64 0,.bool false,.int .i64 0,.int .i32 0] 88));have b0:Below w.heap.size w W:=hW▸((AV _ _).alloc (AH _) _).alloc AR _;have kI:W.heap[w.heap.size]?=some (.cells #[.slice A n cap,.slice (some ⟨eb,IB,none⟩) AO.length CV,.int .i64 sh,.int .i64 lk] 25):=by rw [←hW,Bv _ _ AR];exact AY _ _
 have kR:W.heap[w.heap.size+1]?=some (.cells #[.int .u8 0,.int .i64 0,.int .i64 0,.int .i64 0,.int .i64 0,.int .i64 0,.bool false,.int .i64 0,.int .i32 0] 88):=by rw [←hW];exact Et _ _ AR
 have y0:W.cell? ⟨w.heap.size,0,none⟩=some (.slice A n cap):=by simp [World.cell?,kI]
 have y1:W.cell? ⟨w.heap.size,1,none⟩=some (.slice (some ⟨eb,IB,none⟩) AO.length CV):=by simp [World.cell?,kI]
 have y2:W.cell? ⟨w.heap.size,2,none⟩=some (.int .i64 sh):=by simp [World.cell?,kI]
 have y3:W.cell? ⟨w.heap.size,3,none⟩=some (.int .i64 lk):=by simp [World.cell?,kI]
 have⟨HJW,B0,KI,KR⟩:=CU (hJ.later b0) b0 kI kR;have lw:w.heap.size<W.heap.size:=Ak kI;have lr:w.heap.size+1<W.heap.size:=Ak kR;have lsb:=HJW.out.m.lt;have mh:=HJW.out.m.hal;have Mb:=A3 (show Calls Tryz.prog 56 #[.agg #[.slice A n cap,.slice (some ⟨eb,IB,none⟩) AO.length CV,.int .i64 sh,.int .i64 lk],.int .i64 (k:Int),.pointer (some ⟨sb,0,none⟩)] W fun x w'=>x=.returned (.bool (VV AO lk k s dl.length))∧∃y:Ext W,y.w=w' from (atz _ _ sh lk AO k e sb s dl sv sl W (N0.out.below b0) Kj.out HJW.out).mono fun x w' ⟨h1,h2⟩=>⟨h1,⟨w',h2⟩,rfl⟩);obtain⟨fb,hfb⟩:=A8 (VV AO lk k s dl.length);rw [hfb] at Mb;obtain⟨hal,jd⟩:=A8 s.hal;rw [jd] at mh;have HH:=A3 jd;have d1:decide ((k:Int)<0)=false:=Ad A0;have d2:decide ((AO.length:Int)≤(k:Int))=false:=Ad A0;have d3:decide (AO.length≤k)=false:=Ad A0;have hki:(k:Int)<(AO.length:Int):=by omega
 clear HW HE T OT hJ he HP hsj N5 hc hcd kI kR b0 hfb jd;go_enter Tryz.func27,Tryz.ntmps27;go_upto_region 3 with fail;clear hW;have key:∀(W':World) (er:Int),Below w.heap.size w W'→er≠0→uj w sb cd e lk s dl sv sl Sp Rp (.returned (.tuple #[.agg #[.int .u8 0,.int .i64 0,.int .i64 0,.int .i64 0,.int .i64 0,.int .i64 0,.bool false,.int .i64 0,.int .i32 0],.int .i64 er])) W':=fun W' er h1 h2=>.inl ⟨er,h2,rfl,h1⟩;by_cases hf:fb=true∧hal=false;case neg=>
  have hf':fb=false∨(fb=true∧hal=true):=by cases fb<;>cases hal<;>simp_all
  clear hf;rcases hf' with rfl|⟨rfl,rfl⟩;all_goals
   go_upto_region 4 with (go_at_call 56;refine Mb.out.mono ?_;rintro e' w' ⟨rfl,y,rfl⟩);have kr:=(y.h.block _ lr).trans KR.out;go_wp2_with (refine Bk rfl 88 (.tmp 10) (.tmp 31) rfl (w.heap.size+1) #[.int .u8 0,.int .i64 0,.int .i64 0,.int .i64 0,.int .i64 0,.int .i64 0,.bool false,.int .i64 0,.int .i32 0] rfl rfl 88 _ kr A4 rfl Bd ?_);refine Af (results_cell_tmp (P:=Tryz.prog) Zy _ _ (w.heap.size+1) [.int .u8 0,.int .i64 0,.int .i64 0,.int .i64 0,.int .i64 0,.int .i64 0,.bool false,.int .i64 0,.int .i32 0] _ rfl (Ev (Fg _ _ _ _ _ _ kr)) bM rfl A4) rfl (key _ _ (Bu (Ext.below B0.out B0.out.size y) A0 _) (by first|decide|assumption))
 obtain⟨rfl,rfl⟩:=hf;go_upto_region 5 with (go_at_call 56;refine Mb.out.mono ?_;rintro e' w' ⟨rfl,y,rfl⟩);obtain⟨Y,hY⟩:=A8 y.w;have hyb:=y.h;rw [hY] at hyb ⊢;have hys:=hyb.size;have⟨BY,KRY,HJY,YY⟩:=CU (B0.out.trans (hyb.mono B0.out.size)) ((hyb.block _ lr).trans KR.out) (HJW.out.later hyb) hyb;have u0:Y.cell? ⟨w.heap.size,0,none⟩=some (.slice A n cap):=by rw [hyb.cell (p:=⟨w.heap.size,0,none⟩) lw];exact y0
 have u1:Y.cell? ⟨w.heap.size,1,none⟩=some (.slice (some ⟨eb,IB,none⟩) AO.length CV):=by rw [hyb.cell (p:=⟨w.heap.size,1,none⟩) lw];exact y1
 have u3:Y.cell? ⟨w.heap.size,3,none⟩=some (.int .i64 lk):=by rw [hyb.cell (p:=⟨w.heap.size,3,none⟩) lw];exact y3
 obtain⟨e2,eb',auO,kP,hea,aud,m0,m1,m2,m3⟩:=N0.out.cells BY.out hk;obtain rfl:e=e2:=by have h:=Kj.out;rw [h] at kP;exact FZ kP
 cases hea;have leb:eb<Y.heap.size:=by have:=BY.out.size;omega
 have lwy:w.heap.size<Y.heap.size:=by omega
 have lry:w.heap.size+1<Y.heap.size:=by omega
 obtain⟨st,hst⟩:=A8 e.st;obtain⟨en,hen⟩:=A8 e.en;rw [hst] at m1;rw [hen] at m2;have⟨HST,aqj⟩:=AQ hst hen;obtain⟨X,hX⟩:=A8 (Y.alloc (.cells #[.string e.nm,.int .i64 st,.int .i64 en,.int .i64 e.da] 75));have bX:Below Y.heap.size Y X:=hX▸(AV _ _).alloc (AH _) _;have kX:X.heap[Y.heap.size]?=some (.cells #[.string e.nm,.int .i64 st,.int .i64 en,.int .i64 e.da] 75):=hX▸AY _ _;have sX:X.heap.size=Y.heap.size+1:=by rw [←hX];simp
 clear hY hyb y0 y1 y2 y3 kP hst hen mh Mb;go_upto_region 6 with fail;try rw [hX]
 obtain⟨qb,IJ⟩:=A8 Y.heap.size;rw [IJ] at kX sX;try rw [IJ]
 have r1:X.cell? ⟨qb,1,none⟩=some (.int .i64 st):=by simp [World.cell?,kX]
 have r2:X.cell? ⟨qb,2,none⟩=some (.int .i64 en):=by simp [World.cell?,kX]
 have v0:X.cell? ⟨w.heap.size,0,none⟩=some (.slice A n cap):=by rw [bX.cell (p:=⟨w.heap.size,0,none⟩) lwy];exact u0
 have v3:X.cell? ⟨w.heap.size,3,none⟩=some (.int .i64 lk):=by rw [bX.cell (p:=⟨w.heap.size,3,none⟩) lwy];exact u3
 have HJX:=A3 (HJY.out.later bX);have BX:=A3 (BY.out.trans (bX.mono A0));have⟨KRX,KQ⟩:=AQ ((bX.block _ lry).trans KRY.out) kX;have lqx:qb<X.heap.size:=by omega
 have lwx:w.heap.size<X.heap.size:=by omega
 have lrx:w.heap.size+1<X.heap.size:=by omega
 have lsx:=HJX.out.m.lt;have mp:=HJX.out.m.pc;obtain⟨pc,hpc⟩:=A8 s.pc;rw [hpc] at mp;have Dw:=A3 hpc;clear hX bX kX sX u0 u1 u3 m0 m1 m2 m3 hpc IJ;have hlc:=Mw.out;by_cases Ff:st≤pc∧pc<en∧0≤pc∧pc<(n:Int);case neg=>
  have hsp:(pc<st)∨(¬pc<st∧en≤pc)∨(¬pc<st∧¬en≤pc∧pc<0)∨(¬pc<st∧¬en≤pc∧¬pc<0∧(n:Int)≤pc):=by omega
  clear Ff hlc;rcases hsp with c1|⟨c1,c2⟩|⟨c1,c2,c3⟩|⟨c1,c2,c3,c4⟩;all_goals
   try (first|have g1:=Ad c1|have g1:=Ac c1)
   try (first|have g2:=Ad c2|have g2:=Ac c2)
   try (first|have g3:=Ad c3|have g3:=Ac c3)
   try (have g4:=Ac c4)
   clear c1;try clear c2
   try clear c3
   try clear c4
   refine C7 A4 A4 ?_;repeat (go_big_quiet_step (fail))
   refine BD ?_;rintro _ ⟨z,rfl⟩;have kr:=(z.h.block _ lrx).trans KRX.out;go_upto_region 7 with fail;go_wp2_with (refine Bk rfl 88 (.tmp 10) (.tmp 70) rfl (w.heap.size+1) #[.int .u8 0,.int .i64 0,.int .i64 0,.int .i64 0,.int .i64 0,.int .i64 0,.bool false,.int .i64 0,.int .i32 0] rfl rfl 88 _ kr A4 rfl Bd ?_);refine Af (results_cell_tmp (P:=Tryz.prog) Zy _ _ (w.heap.size+1) [.int .u8 0,.int .i64 0,.int .i64 0,.int .i64 0,.int .i64 0,.int .i64 0,.bool false,.int .i64 0,.int .i32 0] _ rfl (Ev (Fg _ _ _ _ _ _ kr)) bM rfl A4) rfl (key _ _ (Bu (Ext.below BX.out BX.out.size z) A0 _) (by first|decide|assumption))
 obtain⟨p,hp⟩:∃p:Nat,pc=(p:Int):=⟨pc.toNat,by omega⟩;subst hp;have XI:=A3 Ff;have I3:p<n:=by omega
 have g1:decide ((p:Int)<st)=false:=Ad A0;have g2:decide (en≤(p:Int))=false:=Ad A0;have g3:decide ((p:Int)<0)=false:=Ad A0;have g4:decide ((n:Int)≤(p:Int))=false:=Ad A0;have g5:decide (n≤p)=false:=Ad A0;obtain⟨A2,EY,NS,_,_,nL⟩:=hlc.at_;cases NS;obtain⟨cb,Qa,hAe,hcb,hcc⟩:=nL A0;have c0:X.cell? ⟨cb,Qa+p,none⟩=some (.int .u32 (cd p)):=by rw [BX.out.cell (p:=⟨cb,Qa+p,none⟩) hcb];exact hcc p I3
 have hwd:=hlc.wd p I3;subst hAe;have lcx:cb<X.heap.size:=F7 hcb BX.out.size;have hpi:(p:Int)<(n:Int):=by omega
 clear Ff hlc hcc nL;refine C7 A4 A4 ?_;repeat (go_big_quiet_step (fail))
 refine BD ?_;rintro _ ⟨z,rfl⟩;obtain⟨X1,NB⟩:=A8 z.w;have hzb:=z.h;rw [NB] at hzb ⊢;have hzs:=hzb.size;have a0:X1.cell? ⟨w.heap.size,0,none⟩=some (.slice (some ⟨cb,Qa,none⟩) n cap):=by rw [hzb.cell (p:=⟨w.heap.size,0,none⟩) lwx];exact v0
 have a3:X1.cell? ⟨w.heap.size,3,none⟩=some (.int .i64 lk):=by rw [hzb.cell (p:=⟨w.heap.size,3,none⟩) lwx];exact v3
 have ap:X1.cell? ⟨sb,0,none⟩=some (.int .i64 (p:Int)):=by rw [hzb.cell (p:=⟨sb,0,none⟩) lsx];exact mp
 have ac:X1.cell? ⟨cb,Qa+p,none⟩=some (.int .u32 (cd p)):=by rw [hzb.cell (p:=⟨cb,Qa+p,none⟩) lcx];exact c0
 have⟨Ay,B1,KR1⟩:=Bh (HJX.out.later hzb) (BX.out.trans (hzb.mono BX.out.size)) ((hzb.block _ lrx).trans KRX.out);have lw1:w.heap.size<X1.heap.size:=by omega
 have lr1:w.heap.size+1<X1.heap.size:=by omega
 have ls1:=Ay.out.m.lt;have lc1:cb<X1.heap.size:=by omega
 have M8:=A3 (show ∀W',Below X1.heap.size X1 W'→Calls Tryz.prog 22 #[.int .u32 (cd p)] W' fun x w'=>x=.returned (.tuple #[(Ba (cd p)).1.val,.int .i64 (Ba (cd p)).2])∧Below X1.heap.size X1 w' from fun W' Ym=>(VS (cd p) hwd.1 hwd.2 W' (HT.out.below (B1.out.trans (Ym.mono B1.out.size)))).mono fun x w' ⟨h1,h2⟩=>⟨h1,Ym.trans (h2.mono Ym.size)⟩);have cj:=A3 (M8.out X1.drew (Dl (AV _ _)));have cP:=A3 (show Calls Tryz.prog 22 #[.int .u32 (cd p)] ((X1.alloc (.cells #[.int .u8 0,.int .i64 0,.int .i64 0,.int .i64 0,.int .i64 0] 67)).drew) fun x w'=>x=.returned (.tuple #[(Ba (cd p)).1.val,.int .i64 (Ba (cd p)).2])∧w'.heap[X1.heap.size]?=some (.cells #[.int .u8 0,.int .i64 0,.int .i64 0,.int .i64 0,.int .i64 0] 67 (0,0))∧Below X1.heap.size X1 w' from (VS (cd p) hwd.1 hwd.2 _ (HT.out.below (B1.out.trans ((Dl ((AV _ _).alloc (AH _) _)).mono B1.out.size)))).mono fun x w' ⟨h1,h2⟩=>⟨h1,(h2.block X1.heap.size AR).trans (AY X1 _),(Dl ((AV _ _).alloc (AH _) _)).trans (h2.mono AR)⟩);have HIA:=A3 (show AK cd (p:Int)=(Ba (cd p)).1 by simp [AK]);obtain⟨I,hI⟩:=A8 ((Ba (cd p)).1);obtain⟨er,her⟩:=A8 ((Ba (cd p)).2);rw [hI] at HIA cj cP;rw [her] at cj cP;have HDG:=A3 (show er=0→∃q,Good I q from fun h=>by obtain⟨q,hq,_⟩:=UU hwd.1 (her.trans h);rw [hI] at hq;exact⟨q,hq⟩);have HER:=A3 her;obtain⟨op,ia,ib,ic,im⟩:=I;simp only [Ins.val] at cj cP;clear NB hzb hI her c0 v0 v3 mp hwd r1 r2 g1 g2 g3;go_upto_region 8 with fail;go_cut [13,14] from 71 to 82 (fun a13 a14 wx=>∃jb,a13=.pointer (some ⟨jb,0,none⟩)∧a14=.int .i64 er∧wx.heap[jb]?=some (.cells #[.int .u8 op,.int .i64 ia,.int .i64 ib,.int .i64 ic,.int .i64 im] 67 (0,0))∧Below X1.heap.size X1 wx)
 case first=>
  go_region_held3 (fun w'=>(∀b o,b<X1.heap.size→w'.cell? ⟨b,o,none⟩=X1.cell? ⟨b,o,none⟩)∧Below X1.heap.size X1 w') ((refine dO ?_;(repeat (first|(with_reducible assumption)|exact AV _ _|(with_reducible exact Ext.h _)|(with_reducible refine Dl ?_)|(with_reducible refine MU ?_ ?_ _)|(with_reducible refine CY ?_ ?_ _)|exact AH _|exact (Ext.h _).size|(exact Y9 Mz)|(simp;done)|(simp;omega))))) (first|(go_at_call 22;first|(with_reducible refine cj.out.mono ?_;rintro e' W3 ⟨rfl,hb3⟩)|(go_loud (refine cP.out.mono ?_);go_loud (rintro e' W3 ⟨rfl,hk3,hb3⟩);go_loud (have t0:W3.cell? ⟨X1.heap.size,0,none⟩=some (.int .u8 0):=by simp [World.cell?,hk3]);go_loud (have f0:W3.frozen? ⟨X1.heap.size,0,none⟩=false:=by simp [World.frozen?,hk3]);go_loud (have t1:W3.cell? ⟨X1.heap.size,1,none⟩=some (.int .i64 0):=by simp [World.cell?,hk3]);go_loud (have f1:W3.frozen? ⟨X1.heap.size,1,none⟩=false:=by simp [World.frozen?,hk3]);go_loud (have t2:W3.cell? ⟨X1.heap.size,2,none⟩=some (.int .i64 0):=by simp [World.cell?,hk3]);go_loud (have f2:W3.frozen? ⟨X1.heap.size,2,none⟩=false:=by simp [World.frozen?,hk3]);go_loud (have t3:W3.cell? ⟨X1.heap.size,3,none⟩=some (.int .i64 0):=by simp [World.cell?,hk3]);go_loud (have f3:W3.frozen? ⟨X1.heap.size,3,none⟩=false:=by simp [World.frozen?,hk3]);go_loud (have t4:W3.cell? ⟨X1.heap.size,4,none⟩=some (.int .i64 0):=by simp [World.cell?,hk3]);go_loud (have f4:W3.frozen? ⟨X1.heap.size,4,none⟩=false:=by simp [World.frozen?,hk3]);go_loud (have l3:X1.heap.size<W3.heap.size:=Ak hk3))))
  all_goals
   go_wp2_with fail;go_meet;case rel=>first
    | exact⟨_,rfl,rfl,Cl _ _ _ _ _ _ (Cl _ _ _ _ _ _ (Cl _ _ _ _ _ _ (Cl _ _ _ _ _ _ (Cl _ _ _ _ _ _ hk3)))),CY (CY (CY (CY (CY hb3 (AH _) _) (AH _) _) (AH _) _) (AH _) _) (AH _) _⟩
    | exact⟨_,rfl,rfl,AY _ _,MU hb3 hb3.size _⟩
 case rest=>
  obtain⟨jb,rfl,rfl,kj,hbc⟩:=hcut;obtain⟨X2,Fc⟩:∃X2:World,X2=wc:=⟨_,rfl⟩;subst Fc;have B2:=A3 (B1.out.trans (hbc.mono B1.out.size));have hs2:=hbc.size;have⟨KR2,HJ2⟩:=AQ ((hbc.block _ lr1).trans KR1.out) (Ay.out.later hbc);have lr2:w.heap.size+1<X2.heap.size:=by omega
  have ls2:=HJ2.out.m.lt;have ap2:X2.cell? ⟨sb,0,none⟩=some (.int .i64 (p:Int)):=by rw [hbc.cell (p:=⟨sb,0,none⟩) ls1];exact ap
  have b3:X2.cell? ⟨w.heap.size,3,none⟩=some (.int .i64 lk):=by rw [hbc.cell (p:=⟨w.heap.size,3,none⟩) lw1];exact a3
  have lw2:w.heap.size<X2.heap.size:=by omega
  obtain⟨j0,j1,j2,j3,j4,lj⟩:=Gg kj;clear kj hbc ac ap a0 a3 g4 g5;by_cases Qk:er=0;case neg=>
   have gz:(er != 0)=true:=by simpa using Qk
   have kr:=KR2.out;clear Qk;go_wp2_with (refine Bk rfl 88 (.tmp 10) (.tmp 85) rfl (w.heap.size+1) #[.int .u8 0,.int .i64 0,.int .i64 0,.int .i64 0,.int .i64 0,.int .i64 0,.bool false,.int .i64 0,.int .i32 0] rfl rfl 88 _ kr A4 rfl Bd ?_);refine Af (results_cell_tmp (P:=Tryz.prog) Zy _ _ (w.heap.size+1) [.int .u8 0,.int .i64 0,.int .i64 0,.int .i64 0,.int .i64 0,.int .i64 0,.bool false,.int .i64 0,.int .i32 0] _ rfl (Ev (Fg _ _ _ _ _ _ kr)) bM rfl A4) rfl (key _ _ (Bu B2.out A0 _) (by first|decide|assumption))
  have gz:(er != 0)=false:=by simpa using Qk
  have HEZ:=A3 Qk;obtain⟨q,ME⟩:=HDG.out Qk;have HGQ:=A3 ME;have wpc:IntKind.i64.wrap ((p:Int)+1)=(p:Int)+1:=Dn _ A0;clear ME;go_upto_region 11 with fail;clear gz;go_cut [15] from 86 to 98 (fun a15 wx=>∃xb,a15=.pointer (some ⟨xb,0,none⟩)∧X2.heap.size≤xb∧wx.heap[xb]?=some (.cells (Bo ⟨op,ia,ib,ic,im⟩ (p:Int) false (-1) 0 sb ((p:Int)+1)) 141 (0,0))∧Below X2.heap.size X2 wx)
  case first=>
   go_region
   all_goals
    go_wp2_with fail;go_meet;case rel=>exact⟨_,rfl,by simp,by first|exact AY _ _|(rw [World.drew];exact AY _ _),(Dl (AV _ _)).alloc AR _⟩
  case rest=>
   obtain⟨xb,rfl,hxb,kx,hbc⟩:=hcut;obtain⟨X3,hX3⟩:∃X3:World,X3=wc:=⟨_,rfl⟩;subst hX3;have hs3:=hbc.size;have⟨B3,KR3,HJ3⟩:=Bh (B2.out.trans (hbc.mono B2.out.size)) ((hbc.block _ lr2).trans KR2.out) (HJ2.out.later hbc);have Ll:=A3 (show ¬Jb sb s.d sv xb from fun h=>by have:=HJ2.out.lt h;omega);have HPX:=A3 (Iu.out.later B3.out);have HSX:=A3 (show ¬Sp xb from fun h=>by have:=Iu.out.old _ h;omega);have EE:Bo ⟨op,ia,ib,ic,im⟩ (p:Int) false (-1) 0 sb ((p:Int)+1)=Bo ⟨op,ia,ib,ic,im⟩ s.pc false (-1) 0 sb (s.pc+1):=by rw [Dw.out]
   rw [EE] at kx;have c3:X3.cell? ⟨w.heap.size,3,none⟩=some (.int .i64 lk):=by rw [hbc.cell (p:=⟨w.heap.size,3,none⟩) lw2];exact b3
   have lw3:w.heap.size<X3.heap.size:=by omega
   have lr3:w.heap.size+1<X3.heap.size:=by omega
   have lx3:xb<X3.heap.size:=Ak kx;have EU:=A3 (att xb sb ⟨op,ia,ib,ic,im⟩ q HGQ.out lk s (by rw [Dw.out];have:=XI.out;omega) dl sv sl pv Sp Rp X3 kx HJ3.out Ll.out (HO.out.below B3.out) HPX.out HSX.out RV.out);have HHB:=A3 hxb;clear kx hbc b3 j0 j1 j2 j3 j4 ap2 EE hxb wpc;go_upto_region 13 with (go_at_call 57;refine EU.out.mono ?_;rintro e' W4 (⟨fv,er2,hne,rfl,hb4⟩|⟨fv,nx,tk,ad,vl,s',DN,sl',rfl,kx4,f4,hrr,hok,hvl,hcm⟩));case _=>
    have gz:(er2 != 0)=true:=by simpa using hne
    have kr:=(hb4.block _ lr3).trans KR3.out;go_wp2_with (refine Bk rfl 88 (.tmp 10) (.tmp 109) rfl (w.heap.size+1) #[.int .u8 0,.int .i64 0,.int .i64 0,.int .i64 0,.int .i64 0,.int .i64 0,.bool false,.int .i64 0,.int .i32 0] rfl rfl 88 _ kr A4 rfl Bd ?_);refine Af (results_cell_tmp (P:=Tryz.prog) Zy _ _ (w.heap.size+1) [.int .u8 0,.int .i64 0,.int .i64 0,.int .i64 0,.int .i64 0,.int .i64 0,.bool false,.int .i64 0,.int .i32 0] _ rfl (Ev (Fg _ _ _ _ _ _ kr)) bM rfl A4) rfl (key _ _ (Bu (B3.out.trans (hb4.mono B3.out.size)) A0 _) hne)
   case _=>
    obtain⟨fid,caps,rfl,hen,hcl⟩:=hcm;have HCL:=A3 hcl;have lr4:w.heap.size+1<W4.heap.size:=F7 lr3 f4.size;have lx4:xb<W4.heap.size:=Ak kx4;have hrx:w.heap.size+1≠xb:=by have:=HHB.out;omega
    have hrj:¬Jb sb s.d sv (w.heap.size+1):=fun h=>by have:=HJ.out.lt h;omega
    have HRJ:=A3 hrj;have KR4:=A3 ((f4.block _ lr3 (fun h=>by rcases h with h|h;exact hrx h;have:=Iu.out.old _ h;omega)).trans KR3.out);have KX4:=A3 kx4;have F4:=A3 ((Fr.of (S:=fun k=>Jb sb s.d sv k∨Sp k) B3.out).since f4 (fun k hk=>by rcases hk with rfl|hk;exact .inr (by have:=HHB.out;omega);exact .inl (.inr hk)));have J1:=A3 (show Fr (Jb sb s.d sv) w W4∨Rp W4 from hrr.imp (fun h=>(Fr.of B3.out).since h (fun k hk=>.inr (by have:=HHB.out;have h9:k=xb:=hk;omega))) id);have⟨Ea,CG⟩:=AQ hok hvl;have HSP:sb≠xb:=fun h=>Ll.out (.inl h.symm);have HIS:=A3 (show AK cd s.pc=⟨op,ia,ib,ic,im⟩ by rw [Dw.out];exact HIA.out);clear hrr hok hvl kx4 f4 hcl hrj c3;go_upto_region 16 with (with_reducible refine HCL.out.mono ?_;rintro e' W5 ⟨rfl,Z5,f5⟩);have kx5:=(f5.block xb lx4 Ll.out).trans KX4.out;have kr5:=(f5.block _ lr4 HRJ.out).trans KR4.out;obtain⟨z0,z1,z2,z3,z4,z5,z6,z7,z8,z9,z10,-⟩:=D9 kx5;have lx5:=Ak kx5;have mp5:=Z5.m.pc;have mf5:=Z5.m.fz 0;have ls5:=Z5.m.lt;have⟨HJ5,KX5,KR5,HR5,F5⟩:=FP Z5 kx5 kr5 (J1.out.imp (fun h=>h.trans f5) (fun h=>Iu.out.st _ _ _ h f5 (fun k hk h9=>RV.out k h9 hk))) (F4.out.trans (f5.mono fun k _ h=>.inl h));clear Z5 kx5 kr5 f5 hen;go_upto_region 17 with fail;obtain⟨W6,P6⟩:=A8 (W5.setCell ⟨sb,0,none⟩ (.int .i64 nx));have f6:Fr (· = sb) W5 W6:=P6▸(Fr.refl (· = sb) _).set _ (.inl rfl);have HJ6:=A3 (show DG W6 sb { s' with pc:=nx } DN sv sl' from HJ5.out.state (by rw [←P6];exact HJ5.out.m.afE nx) f6 rfl);have kx6:=(f6.block xb lx5 (fun h=>HSP h.symm)).trans KX5.out;have kr:=(f6.block _ (Ak KR5.out) (fun h=>HRJ.out (.inl h))).trans KR5.out;obtain⟨a0,a1,a2,a3,a4,a5,a6,a7,a8,a9,a10,-⟩:=D9 kx6;have lx6:=Ak kx6;have⟨HR6,F6⟩:=AQ (HR5.out.imp (fun h=>h.trans (f6.mono fun k _ e=>.inl e)) (fun h=>Iu.out.st _ _ _ h f6 (fun k hk h9=>RV.out k (.inl h9) hk))) (F5.out.trans (f6.mono fun k _ e=>.inl (.inl e)));rw [P6];simp only at a0 a1 a2 a3 a4;rw [Dw.out] at a5;clear P6 f6 kx6 z0 z1 z2 z3 z4 z5 z6 z7 z8 z9 z10 mp5 mf5;go_wp2_with (refine Bk rfl 88 (.tmp 10) (.tmp 119) rfl (w.heap.size+1) #[.int .u8 op,.int .i64 ia,.int .i64 ib,.int .i64 ic,.int .i64 im,.int .i64 (p:Int),.bool tk,.int .i64 ad,.int .i32 vl] rfl rfl 88 _ kr A4 rfl Bd ?_);refine Af (results_cell_tmp (P:=Tryz.prog) Zy _ _ (w.heap.size+1) [.int .u8 op,.int .i64 ia,.int .i64 ib,.int .i64 ic,.int .i64 im,.int .i64 (p:Int),.bool tk,.int .i64 ad,.int .i32 vl] _ rfl (Ev (Fg _ _ _ _ _ _ kr)) bM rfl A4) rfl ?_;have f7:Fr (· = w.heap.size+1) W6 (W6.setRow (w.heap.size+1) #[.int .u8 op,.int .i64 ia,.int .i64 ib,.int .i64 ic,.int .i64 im,.int .i64 (p:Int),.bool tk,.int .i64 ad,.int .i32 vl]):=asB _ _ _;refine .inr ⟨nx,tk,ad,vl,s',DN,sl',HH.out,by rw [HST.out,Dw.out];exact XI.out.1,by rw [aqj.out,Dw.out];exact XI.out.2.1,by rw [Dw.out,Cu,HER.out];exact HEZ.out,by rw [HIS.out];exact Ea.out,by rw [HIS.out];exact CG.out,by rw [HIS.out,Dw.out];rfl,HJ6.out.keep f7 (fun k hk e=>?_),F6.out.since f7 (fun k hk=>.inr (by have h9:k=w.heap.size+1:=hk;omega)),HR6.out.imp (fun h=>h.since f7 (fun k hk=>.inr (by have h9:k=w.heap.size+1:=hk;omega))) (fun h=>Iu.out.st _ _ _ h f7 (fun k hk h9=>by have h8:k=w.heap.size+1:=h9;have:=Iu.out.old k hk;omega))⟩;have h6:=Ea.out.dat;rcases hk with h|h|h
    ·exact HRJ.out (.inl (by rw [←e];exact h))
    ·exact HRJ.out (.inr (.inl (by rw [←e,← h6];exact h)))
    ·exact HRJ.out (.inr (.inr (by rw [←e];exact h)))
theorem rS:(Tryz.prog.info? 21).map (fun i=>(i.zero,i.size,i.bytes))=some (some (.int .i32 0),1,4):=by kernel_rfl
theorem atn (w:World) (g:Nat) (t:TypeId) (c:Array Value) {old:Array Value} (h:w.heap[g]?=some (.cells old t (0,0))):(w.setRow g c).heap[g]?=some (.cells c t (0,0)):=by
 simp [World.setRow,gj,h]
theorem zu (w:World) (g:Nat) (c:Array Value):Fr (· = g) w (w.setRow g c):=
 ⟨rfl,rfl,rfl,by simp [World.setRow],fun k h1 h2=>by simp [World.setRow,gj];intro e;exact absurd e.symm h2⟩
theorem arF (w:World) (n:Nat) (hn:n≤512):(w.alloc (.cells (madeCells (Value.int .i32 0).cells (n*1)) 21)).ownsRow 0 21 1 (.slice (some ⟨w.heap.size,0,none⟩) n n) n (F0 (List.replicate n 0)):=by
 have hs:madeCells (Value.int .i32 0).cells (n*1)=(List.replicate n (Value.int .i32 0)).toArray:=by
  rw [N6];apply Array.ext
  ·simp [madeCells]
  ·intro i h1 h2
   simp [madeCells,Value.cells,Nat.mod_one]
 refine⟨by simp,.inr ⟨w.heap.size,n,_,rfl,Ca _,AY w _,AH _,by unfold maxLen;omega,by rw [hs];simp,?_⟩⟩;rw [hs];simp [F0]
theorem asb (cv ev:Value) (sh lk:Int) (AO:List Bt) (k:Nat) (e:Bt) (w:World) (HE:IZ w ev AO) (he:AO[k]?=some e) (h0:0≤e.da) (h1:e.da≤512) :
  Calls Tryz.prog 24 #[.agg #[cv,ev,.int .i64 sh,.int .i64 lk],.int .i64 (k:Int)] w fun x w'=>(∃g,x=.returned (.tuple #[.agg #[.int .i64 e.st,.int .i32 0,.int .i32 0,.int .i32 0,.int .i32 0,.int .i32 0,.int .i32 0,.int .i32 0,.int .i32 0,.int .i32 0,.int .i32 0,.int .i32 0,.int .i32 0,.int .i32 0,.int .i32 0,.int .i32 0,.int .i32 0,.slice (some ⟨g,0,none⟩) e.da.toNat e.da.toNat,.bool false,.int .i64 (-1)],.int .i64 0])∧w.heap.size≤g∧w'.ownsRow 0 21 1 (.slice (some ⟨g,0,none⟩) e.da.toNat e.da.toNat) e.da.toNat (F0 (List.replicate e.da.toNat 0)))∧Below w.heap.size w w':=by
 have hk:=(Bc.1 he).1;obtain⟨EA,CV,hev,he1,he2,N5⟩:=HE.at_;obtain⟨eb,IB,rfl,hbl,hc⟩:=N5 A0;obtain⟨e0,e1,e2,e3⟩:=hc k e he;subst hev;obtain⟨nm,st,en,da⟩:=e;simp only at e0 e1 e2 e3 h0 h1 ⊢;obtain⟨n,rfl⟩:∃n:Nat,da=(n:Int):=⟨da.toNat,by omega⟩;rw [Cu];obtain⟨W,hW⟩:=A8 ((w.alloc (.cells #[cv,.slice (some ⟨eb,IB,none⟩) AO.length CV,.int .i64 sh,.int .i64 lk] 25)).alloc (.cells #[.int .i64 0,.int .i32 0,.int .i32 0,.int .i32 0,.int .i32 0,.int .i32 0,.int .i32 0,.int .i32 0,.int .i32 0,.int .i32 0,.int .i32 0,.int .i32 0,.int .i32 0,.int .i32 0,.int .i32 0,.int .i32 0,.int .i32 0,.slice none 0 0,.bool false,.int .i64 0] 82));have b0:Below w.heap.size w W:=hW▸((AV _ _).alloc (AH _) _).alloc AR _;have d1:decide ((k:Int)<0)=false:=Ad A0;have d2:decide ((AO.length:Int)≤(k:Int))=false:=Ad A0;have d3:decide (AO.length≤k)=false:=Ad A0;have d4:decide ((n:Int)<0)=false:=Ad A0;have d5:decide ((512:Int)<(n:Int))=false:=Ad A0;have d6:decide (512<n)=false:=Ad A0;go_enter Tryz.func24,Tryz.ntmps24;go_upto_region 1 with fail;have kS:W.heap[w.heap.size+1]?=some (.cells #[.int .i64 0,.int .i32 0,.int .i32 0,.int .i32 0,.int .i32 0,.int .i32 0,.int .i32 0,.int .i32 0,.int .i32 0,.int .i32 0,.int .i32 0,.int .i32 0,.int .i32 0,.int .i32 0,.int .i32 0,.int .i32 0,.int .i32 0,.slice none 0 0,.bool false,.int .i64 0] 82):=by rw [←hW];exact Et _ _ AR
 have kI:W.heap[w.heap.size]?=some (.cells #[cv,.slice (some ⟨eb,IB,none⟩) AO.length CV,.int .i64 sh,.int .i64 lk] 25):=by rw [←hW,Bv _ _ AR];exact AY _ _
 have sW:W.heap.size=w.heap.size+2:=by rw [←hW];simp
 have y1:W.cell? ⟨w.heap.size,1,none⟩=some (.slice (some ⟨eb,IB,none⟩) AO.length CV):=by simp [World.cell?,kI]
 have E0:W.cell? ⟨eb,IB+k*4,none⟩=some (.string nm):=by rw [b0.cell (p:=⟨eb,_,none⟩) hbl];exact e0
 have E1:W.cell? ⟨eb,IB+k*4+1,none⟩=some (.int .i64 st):=by rw [b0.cell (p:=⟨eb,_,none⟩) hbl];exact e1
 have E2:W.cell? ⟨eb,IB+k*4+2,none⟩=some (.int .i64 en):=by rw [b0.cell (p:=⟨eb,_,none⟩) hbl];exact e2
 have E3:W.cell? ⟨eb,IB+k*4+3,none⟩=some (.int .i64 (n:Int)):=by rw [b0.cell (p:=⟨eb,_,none⟩) hbl];exact e3
 have leb:eb<W.heap.size:=by omega
 have SW:=A3 sW;have lw:w.heap.size<W.heap.size:=by omega
 have⟨B0,KS⟩:=AQ b0 kS;have hki:(k:Int)<(AO.length:Int):=by omega
 clear sW hW N5 hc e0 e1 e2 e3 HE he kS kI b0;obtain⟨X,hX⟩:=A8 (W.alloc (.cells #[.string nm,.int .i64 st,.int .i64 en,.int .i64 (n:Int)] 75));go_upto_region 4 with fail;try rw [hX]
 have bX:Below W.heap.size W X:=hX▸(AV _ _).alloc (AH _) _;have kX:X.heap[W.heap.size]?=some (.cells #[.string nm,.int .i64 st,.int .i64 en,.int .i64 (n:Int)] 75):=hX▸AY _ _;have sX:X.heap.size=W.heap.size+1:=by rw [←hX];simp
 have sW:=SW.out;obtain⟨xb,hxb⟩:=A8 W.heap.size;obtain⟨rb,hrb⟩:=A8 (w.heap.size+1);rw [hxb] at kX sX;try rw [hxb]
 try rw [hrb]
 rw [hrb] at KS;obtain⟨i1,hi,hz0,hz1,hz2⟩:=Dp rS;have hr:=Sy (P:=Tryz.prog) X.drew 79 21 i1 _ Xl hi hz0 .i64 .i64 (n:Int) (n:Int) A0 (EJ _) (by rw [hz2];omega) A0;have sXr:xb<X.heap.size∧rb<X.heap.size:=by omega
 obtain⟨lx,lr⟩:=sXr;rw [hz1,Cu] at hr;obtain⟨Z,hZ⟩:=A8 (X.drew.alloc (.cells (madeCells (Value.int .i32 0).cells (n*1)) 21));have bZ:Below X.heap.size X Z:=hZ▸((Dl (AV _ _)).alloc AR _);have kZ:Z.heap[rb]?=some (.cells #[.int .i64 0,.int .i32 0,.int .i32 0,.int .i32 0,.int .i32 0,.int .i32 0,.int .i32 0,.int .i32 0,.int .i32 0,.int .i32 0,.int .i32 0,.int .i32 0,.int .i32 0,.int .i32 0,.int .i32 0,.int .i32 0,.int .i32 0,.slice none 0 0,.bool false,.int .i64 0] 82):=by rw [bZ.block _ A0,bX.block _ A0];exact KS.out
 have kZx:Z.heap[xb]?=some (.cells #[.string nm,.int .i64 st,.int .i64 en,.int .i64 (n:Int)] 75):=by rw [bZ.block _ A0];exact kX
 have HRO:=A3 (show Z.ownsRow 0 21 1 (.slice (some ⟨X.heap.size,0,none⟩) n n) n (F0 (List.replicate n 0)) from by rw [←hZ];exact arF X.drew n A0);rw [hZ] at hr;clear hX hZ;have lx':xb<Z.heap.size:=by have:=bZ.size;omega
 have lr':rb<Z.heap.size:=by have:=bZ.size;omega
 have Vm:=A3 (show rb<X.heap.size∧w.heap.size≤rb∧W.heap.size≤X.heap.size∧w.heap.size≤W.heap.size from by omega);have⟨BX,BZ,KZ⟩:=Bh bX bZ kZ;have q1:X.cell? ⟨xb,1,none⟩=some (.int .i64 st):=by simp [World.cell?,kX]
 have q3:X.cell? ⟨xb,3,none⟩=some (.int .i64 (n:Int)):=by simp [World.cell?,kX]
 have q1':Z.cell? ⟨xb,1,none⟩=some (.int .i64 st):=by simp [World.cell?,kZx]
 obtain⟨Z2,Kw⟩:=A8 (Z.setRow rb #[.int .i64 st,.int .i32 0,.int .i32 0,.int .i32 0,.int .i32 0,.int .i32 0,.int .i32 0,.int .i32 0,.int .i32 0,.int .i32 0,.int .i32 0,.int .i32 0,.int .i32 0,.int .i32 0,.int .i32 0,.int .i32 0,.int .i32 0,.slice (some ⟨X.heap.size,0,none⟩) n n,.bool false,.int .i64 (-1)]);have hs1:=run_storeVar_row (P:=Tryz.prog) Z rb 82 82 _ #[.int .i64 st,.int .i32 0,.int .i32 0,.int .i32 0,.int .i32 0,.int .i32 0,.int .i32 0,.int .i32 0,.int .i32 0,.int .i32 0,.int .i32 0,.int .i32 0,.int .i32 0,.int .i32 0,.int .i32 0,.int .i32 0,.int .i32 0,.slice (some ⟨X.heap.size,0,none⟩) n n,.bool false,.int .i64 (-1)] kZ A4 rfl Bd;have hs2:=run_storeAt_mid (P:=Tryz.prog);rw [Kw] at hs1;obtain⟨vS,hV⟩:=A8 (Value.agg #[.int .i64 st,.int .i32 0,.int .i32 0,.int .i32 0,.int .i32 0,.int .i32 0,.int .i32 0,.int .i32 0,.int .i32 0,.int .i32 0,.int .i32 0,.int .i32 0,.int .i32 0,.int .i32 0,.int .i32 0,.int .i32 0,.int .i32 0,.slice (some ⟨X.heap.size,0,none⟩) n n,.bool false,.int .i64 (-1)]);have VW:vS.cells.size=20:=by rw [←hV];rfl
 have hs4:(storeCells ⟨rb,0,none⟩ vS.cells.toList).run Tryz.prog Z=.ok () Z2:=by
  rw [←hV,← Kw];exact run_storeCells_from (P:=Tryz.prog) rb 82 #[.int .i64 st,.int .i32 0,.int .i32 0,.int .i32 0,.int .i32 0,.int .i32 0,.int .i32 0,.int .i32 0,.int .i32 0,.int .i32 0,.int .i32 0,.int .i32 0,.int .i32 0,.int .i32 0,.int .i32 0,.int .i32 0,.int .i32 0,.slice (some ⟨X.heap.size,0,none⟩) n n,.bool false,.int .i64 (-1)].toList 0 _ Z kZ rfl Bd
 clear hs2 hs1;unfold Value.cells at VW hs4;have Gc:Z2.heap[rb]?=some (.cells #[.int .i64 st,.int .i32 0,.int .i32 0,.int .i32 0,.int .i32 0,.int .i32 0,.int .i32 0,.int .i32 0,.int .i32 0,.int .i32 0,.int .i32 0,.int .i32 0,.int .i32 0,.int .i32 0,.int .i32 0,.int .i32 0,.int .i32 0,.slice (some ⟨X.heap.size,0,none⟩) n n,.bool false,.int .i64 (-1)] 82 (0,0)):=by rw [←Kw];exact atn Z rb _ _ kZ
 have FZ2:=A3 (show Fr (· = rb) Z Z2 from by rw [←Kw];exact zu Z rb _);have KZ2:=A3 Gc;have z0:Z2.cell? ⟨rb,0,none⟩=some (.int .i64 st):=by simp [World.cell?,Gc]
 have z1:Z2.cell? ⟨rb,1,none⟩=some (.int .i32 0):=by simp [World.cell?,Gc]
 have z2:Z2.cell? ⟨rb,2,none⟩=some (.int .i32 0):=by simp [World.cell?,Gc]
 have z3:Z2.cell? ⟨rb,3,none⟩=some (.int .i32 0):=by simp [World.cell?,Gc]
 have z4:Z2.cell? ⟨rb,4,none⟩=some (.int .i32 0):=by simp [World.cell?,Gc]
 have z5:Z2.cell? ⟨rb,5,none⟩=some (.int .i32 0):=by simp [World.cell?,Gc]
 have z6:Z2.cell? ⟨rb,6,none⟩=some (.int .i32 0):=by simp [World.cell?,Gc]
 have z7:Z2.cell? ⟨rb,7,none⟩=some (.int .i32 0):=by simp [World.cell?,Gc]
 have z8:Z2.cell? ⟨rb,8,none⟩=some (.int .i32 0):=by simp [World.cell?,Gc]
 have z9:Z2.cell? ⟨rb,9,none⟩=some (.int .i32 0):=by simp [World.cell?,Gc]
 have z10:Z2.cell? ⟨rb,10,none⟩=some (.int .i32 0):=by simp [World.cell?,Gc]
 have z11:Z2.cell? ⟨rb,11,none⟩=some (.int .i32 0):=by simp [World.cell?,Gc]
 have z12:Z2.cell? ⟨rb,12,none⟩=some (.int .i32 0):=by simp [World.cell?,Gc]
 have z13:Z2.cell? ⟨rb,13,none⟩=some (.int .i32 0):=by simp [World.cell?,Gc]
 have z14:Z2.cell? ⟨rb,14,none⟩=some (.int .i32 0):=by simp [World.cell?,Gc]
 have z15:Z2.cell? ⟨rb,15,none⟩=some (.int .i32 0):=by simp [World.cell?,Gc]
 have z16:Z2.cell? ⟨rb,16,none⟩=some (.int .i32 0):=by simp [World.cell?,Gc]
 have z17:Z2.cell? ⟨rb,17,none⟩=some (.slice (some ⟨X.heap.size,0,none⟩) n n):=by simp [World.cell?,Gc]
 have z18:Z2.cell? ⟨rb,18,none⟩=some (.bool false):=by simp [World.cell?,Gc]
 have z19:Z2.cell? ⟨rb,19,none⟩=some (.int .i64 (-1)):=by simp [World.cell?,Gc]
 clear Gc Kw sX sW hxb hrb bX bZ kX kZ kZx E0 E1 E2 E3 y1 hz0 hz1 hz2 hi;go_upto_region 6 with fail;go_region
 all_goals
  clear hr VW hs4 q1 q3 q1';have HV:=A3 hV;clear z0 z1 z2 z3 z4 z5 z6 z7 z8 z9 z10 z11 z12 z13 z14 z15 z16 z17 z18 z19;go_wp2_with fail;refine Af (results_cell_tmp (P:=Tryz.prog) Tryz.results24 _ Z2 rb [.int .i64 st,.int .i32 0,.int .i32 0,.int .i32 0,.int .i32 0,.int .i32 0,.int .i32 0,.int .i32 0,.int .i32 0,.int .i32 0,.int .i32 0,.int .i32 0,.int .i32 0,.int .i32 0,.int .i32 0,.int .i32 0,.int .i32 0,.slice (some ⟨X.heap.size,0,none⟩) n n,.bool false,.int .i64 (-1)] _ rfl (Ev KZ2.out) Tryz.underlying82 rfl A4) rfl ?_;refine⟨⟨X.heap.size,?_,by have:=Vm.out;omega,FZ2.out.own HRO.out (fun q hq e=>by have:=Vm.out;simp [Value.ownBlock] at hq;omega)⟩,B0.out.trans ((BX.out.mono (by have:=Vm.out;omega)).trans ((BZ.out.mono (by have:=Vm.out;omega)).trans (FZ2.out.below (by have:=Vm.out;have:=BZ.out.size;omega) (fun q hq=>by have:=Vm.out;omega))))⟩;first|rfl|(rw [←HV.out])
structure Lb (w:World) (v:Value) (l:List Int):Prop where
 wd:∀x∈l,AL x
 at_:∃A cap,v=.slice A l.length cap∧l.length≤cap∧cap≤maxLen∧(0<l.length→∃b off,A=some ⟨b,off,none⟩∧b<w.heap.size∧∀i,i<l.length→w.cell? ⟨b,off+i,none⟩=some (.int .i32 (l.getD i 0)))
theorem Lb.later {w w':World} {v:Value} {l:List Int} {S:Nat→Prop} (h:Lb w v l) (f:Fr S w w') (hS:∀k,k<w.heap.size→¬S k):Lb w' v l:=by
 obtain⟨A,cap,h1,h2,h3,h4⟩:=h.at_;refine⟨h.wd,A,cap,h1,h2,h3,fun h0=>?_⟩;obtain⟨b,off,ha,hlt,hc⟩:=h4 h0;exact⟨b,off,ha,F7 hlt f.size,fun i hi=>(f.cell _ hlt (hS b hlt)).trans (hc i hi)⟩
theorem Lb.below {w w':World} {v:Value} {l:List Int} (h:Lb w v l) (hb:Below w.heap.size w w'):Lb w' v l:=h.later (S:=fun _=>False) (Fr.of hb) (fun _ _ h=>h)
theorem aeI (b off j:Nat):(⟨b,off,none⟩:Addr).add j=⟨b,off+j,none⟩:=by cases j<;>simp [Addr.add]
theorem aaC {w:World} {ops:Array Oper} {rest:List Oper} {o:Oper} {a:Act} {Q:Exit→Act→World→Prop} (hgd:o.guard=none) (d s:Operand)
  (ho:o.op=.call { callee:=.builtin .copy,args:=#[d,s],argTypes:=#[79,79] }) (g n cap:Nat) (ml:List Int) (l:List Int) (sv:Value)
  (hd:a.eval d=.slice (some ⟨g,0,none⟩) n cap) (hs:a.eval s=sv) (hr:w.ownsRow 0 21 1 (.slice (some ⟨g,0,none⟩) n cap) n (F0 ml)) (hm:∀x∈ml,AL x) (hl:Lb w sv l)
  (h:∀(w':World) (T4:List Int) (k:Int),T4.length=ml.length→(∀x∈T4,AL x)→w'.ownsRow 0 21 1 (.slice (some ⟨g,0,none⟩) n cap) n (F0 T4)→Fr (· = g) w w'→wpList Tryz.prog ops Q rest (a.put o.dst (.int .i64 k)) w') :
  wpList Tryz.prog ops Q (o :: rest) a w:=by
 obtain⟨A,c,rfl,h1,h2,h3⟩:=hl.at_;have hml:ml.length=n:=by have:=hr.1;simpa using this
 obtain⟨m,hmm⟩:=A8 (Nat.min l.length n);have hmin:m≤n:=hmm▸Nat.min_le_right _ _;have auH:m≤l.length:=hmm▸Nat.min_le_left _ _;by_cases h0:m=0
 ·refine wpList_copy_nothing hgd d s _ _ ho 21 Xl A4 _ _ _ _ _ _ hd hs (by rw [hmm];exact h0) ?_
  exact h w ml 0 rfl hm hr (Fr.refl _ _)
 ·obtain⟨b,off,rfl,hb,hc⟩:=h3 A0
  rcases hr.2 with⟨h,_⟩|⟨g',cap',cur,hv,hb0,hg,hn,hcm,hsz,Dx⟩
  ·cases h
  ·cases hv
   have hcl:(F0 (l.take m)).length=m:=by simp;omega
   refine wpList_copy_own hgd d s _ _ ho 21 Xl A4 g 0 n cap ⟨b,off,none⟩ l.length c hd hs cur 21 hg (F0 (l.take m)) (by rw [hcl,hmm]) (fun j v hv=>?_) (by rw [hcl];omega) (fun v hv=>by obtain⟨x,_,rfl⟩:=C5.1 hv;rfl) ?_
   ·have hj:j<m:=by have:=(Bc.1 hv).1;omega
    rw [aeI,hc j A0,← hv];simp [F0,XP,hj,D8,List.getD,Ab (show j<l.length by omega)]
   ·refine h _ (l.take m++ml.drop m) _ CD (fun x hx=>?_) ?_ ?_
    ·rcases Ch.1 hx with hx|hx
     ·exact hl.wd x (rK hx)
     ·exact hm x (List.mem_of_mem_drop hx)
    ·refine⟨by simp;omega,.inr ⟨g,cap,_,rfl,Ca _,Fg w g _ _ _ _ hg,hn,hcm,?_,?_⟩⟩
     ·simp;omega
     ·simp only [List.take_zero,cT,Er]
      rw [hcl,List.take_append,hcl,K8 (by rw [hcl];omega),← List.drop_take,Dx];simp [F0,List.map_drop]
    ·exact⟨rfl,rfl,rfl,by simp [World.setRow],fun k h1 h2=>Rh w g k _ h2⟩
theorem aqw {P:Program} {x:String×DataW Unit} {r:List (String×DataW Unit)} {W:World} (h:laidMet P (x :: r) W):laidMet P [x] W:=by
 obtain⟨ps,⟨g,t,cs,fuel,p,q,hg,ht,hv,hd,hq,rfl⟩,hn,hm⟩:=h;refine⟨_,⟨g,t,cs,fuel,p,[],hg,ht,hv,hd,rfl,rfl⟩,?_,fun b off hb=>hm b off ?_⟩
 ·rw [Jz]
  exact (Uh.1 hn).1
 ·rw [Jz] at hb
  exact Rl _ hb
theorem ak0 {P:Program} {x:String×DataW Unit} {r:List (String×DataW Unit)} {W:World} (h:laidMet P (x :: r) W):laidMet P r W:=by
 obtain⟨ps,⟨g,t,cs,fuel,p,q,hg,ht,hv,hd,hq,rfl⟩,hn,hm⟩:=h;exact⟨q,hq,(Uh.1 hn).2.1,fun b off hb=>hm b off (pP _ hb)⟩
def Xm:List Int:=[0,0,6,7,8,9,10,11,12,13,14,15,16,18,0,0,0,0,0,0,0,0,0,0,0,0,0,0,0,0]
theorem apb {H:Type}:(Rows.laid_ontime_core_operators:DataW H)=.agg (Xm.map fun n=>.lit (.int .u8 n)):=by kernel_rfl
def P5:List Value:=Xm.map (.int .u8)
theorem ary {W:World} (h:laidMet Tryz.prog [("ontime/core.operators", Rows.laid_ontime_core_operators)] W):W.var? Tryz.prog "ontime/core.operators" = some P5.toArray:=by
 obtain⟨ps,⟨g,t,cs,fuel,p,q,hg,ht,kE,hd,_,_⟩,_⟩:=h;obtain rfl:=FZ ((show Tryz.prog.globalNamed "ontime/core.operators" = some 1 by kernel_rfl).symm.trans hg);obtain rfl:=FZ ((show (Tryz.prog.globals[1]?).map (·.type)=some 186 by kernel_rfl).symm.trans ht);rw [kE];congr 1
 obtain⟨l⟩:=cs;cases fuel with
 | zero=>simp [DataW.trod] at hd
 | succ fuel=>
  rw [DataW.trod_step] at hd;unfold DataW.trodStep at hd;have c0:Tryz.prog.cellsOf 186=30:=by kernel_rfl
  have c1:Tryz.prog.cellsOf 5=1:=by kernel_rfl
  simp only [Tryz.underlying186] at hd;rw [c0,c1] at hd;split at hd
  ·rename_i hl
   rw [apb] at hd;simp only [YM,cX,DataW.agg.injEq] at hd;obtain⟨xs,hx,e1,e2⟩:=hd;obtain⟨l1,l2⟩:=lu hx;have hrow:∀i r,(Xm.map fun n=>[Value.int .u8 n])[i]?=some r→(l.drop (i*1)).take 1=r:=by
    intro i r hr;rw [D8] at hr;obtain⟨f,hf,rfl⟩:=YM.mp hr;have hi:i<30:=by
     have:=(Bc.mp hf).1;exact this
    obtain⟨a,b,ha,hb,hab⟩:=l2 i WV;rw [FI hi] at ha;obtain rfl:=FZ ha;have hb':(xs.map (·.1))[i]?=some b.1:=by rw [D8,hb];rfl
    rw [e1,D8,hf] at hb';have hb2:DataW.lit (.int .u8 f)=b.1:=FZ hb';obtain⟨z,hz,hzz,_⟩:=Qy lN hab;rw [hzz] at hb2;simp only [DataW.lit.injEq,Lit.int.injEq,true_and] at hb2;rw [hb2];exact hz
   have:=kD 1 (Xm.map fun n=>[Value.int .u8 n]) l (by rw [show (Xm.map fun n=>[Value.int .u8 n]).length=30 from rfl];exact hl) hrow;rw [this];rfl
  ·cases hd
abbrev jm:List (String×DataW Unit):=[("ontime/isa.formats", Rows.laid_ontime_isa_formats),("ontime/core.operators", Rows.laid_ontime_core_operators)]
theorem asy {W:World} (h:laidMet Tryz.prog jm W):CO W:=aaV (aqw h)
theorem wQ:∀k,2≤k→k≤13→P5.toArray[k]?=some (.int .u8 (Ru (k:Int))):=by
 intro k h1 h2;have:k=2∨k=3∨k=4∨k=5∨k=6∨k=7∨k=8∨k=9∨k=10∨k=11∨k=12∨k=13:=by omega
 rcases this with rfl|rfl|rfl|rfl|rfl|rfl|rfl|rfl|rfl|rfl|rfl|rfl<;>rfl
theorem apo {W:World} (h:laidMet Tryz.prog jm W):UR W:=by
 have hv:=ary (ak0 h);have hg:Tryz.prog.globalNamed "ontime/core.operators" = some 1:=by kernel_rfl
 have hc:∀k,W.cell? ⟨1,k,none⟩=P5.toArray[k]?:=fun k=>World.var?_cell hg hv k;refine⟨?_,fun k h1 h2=>(hc k).trans (wQ k h1 h2)⟩;have h0:W.cell? ⟨1,0,none⟩=some (.int .u8 0):=by rw [hc 0];rfl
 exact aB h0
def nC (c:Array Value):Obj→Obj
 | .cells _ t frozen=>.cells c t frozen
 | o=>o
noncomputable def cL (os:Os):World:=
 { World.holding Tryz.prog os ⟨#[],#[],[]⟩ with heap:=((World.holding Tryz.prog os ⟨#[],#[],[]⟩).heap.modify 0 (nC Q0.toArray)).modify 1 (nC P5.toArray) }
theorem sk (os:Os) (args:Array Value):((cL os).forCall (fun _ _=>0) ⟨#[],args,[]⟩).memory.heap[0]?=some (.cells Q0.toArray 132 (0,0)):=by kernel_rfl
theorem ox (os:Os) (args:Array Value):((cL os).forCall (fun _ _=>0) ⟨#[],args,[]⟩).memory.heap[1]?=some (.cells P5.toArray 186 (0,0)):=by kernel_rfl
theorem abu (os:Os) (args:Array Value):laidMet Tryz.prog jm ((cL os).forCall (fun _ _=>0) ⟨#[],args,[]⟩).memory:=by
 refine⟨_,⟨0,132,Q0.toArray,8,[],_,by kernel_rfl,by kernel_rfl,by kernel_rfl,by kernel_rfl,⟨1,186,P5.toArray,8,[],[],by kernel_rfl,by kernel_rfl,by kernel_rfl,by kernel_rfl,rfl,rfl⟩,rfl⟩,by decide +kernel,fun b off h=>?_⟩;have hb:b=0∨b=1:=by
  have h':MemPlace.cell b off∈(List.range 180).map (fun i=>MemPlace.cell 0 (0+i))++(List.range 30).map (fun i=>MemPlace.cell 1 (0+i)):=by
   have e:(MemPlace.row ⟨0,0,none⟩ Q0.toArray.size++[]++(MemPlace.row ⟨1,0,none⟩ P5.toArray.size++[]++[]):List MemPlace)=(List.range 180).map (fun i=>MemPlace.cell 0 (0+i))++(List.range 30).map (fun i=>MemPlace.cell 1 (0+i)):=by decide +kernel
   rw [e] at h;exact h
  rcases Ch.1 h' with h2|h2
  ·obtain⟨i,_,e⟩:=C5.1 h2
   cases e;exact .inl rfl
  ·obtain⟨i,_,e⟩:=C5.1 h2
   cases e;exact .inr rfl
 rcases hb with rfl|rfl
 ·refine⟨⟨Q0.toArray,132,sk os args⟩,fun u v hc=>?_⟩
  simp only [World.cell?,sk os args] at hc;exfalso;have hm:Value.iface u v∈Q0:=Bj (by simpa using hc);unfold Q0 at hm;obtain⟨f,_,hf⟩:=TB.1 hm;simp [Fm.cells] at hf
 ·refine⟨⟨P5.toArray,186,ox os args⟩,fun u v hc=>?_⟩
  simp only [World.cell?,ox os args] at hc;exfalso;have hm:Value.iface u v∈P5:=Bj (by simpa using hc);unfold P5 at hm;obtain⟨f,_,hf⟩:=C5.1 hm;cases hf
theorem i32_in {p:Int} (h:(Lit.int .i32 p).wf=true):AL p:=by
 simp [Lit.wf] at h;have e1:IntKind.i32.min = -2147483648:=by decide
 have e2:IntKind.i32.max=2147483647:=by decide
 unfold AL;omega
theorem eE {H:Type} {enc:TypeId×Value→H} {w:World} {base:Nat} {spare:Nat→Bool} {held:Bool} {r:Reach} {b0:Nat} {v:Value} {d:DataW H} {p:List MemPlace} (hv:Value.okWide Tryz.prog w r b0 79 v) (h:DataW.Trod enc Tryz.prog w base spare held 79 v d p):∃l,Lb w v l:=by
 obtain⟨l,⟨A,cap,rfl,h1,h2,hc⟩,hw⟩:=aqR Xl Tryz.underlying21 A4 hv h;refine⟨l,fun x hx=>i32_in (hw x hx),A,cap,rfl,h1,h2,fun h0=>?_⟩;obtain⟨b,off,rfl,hb,hx⟩:=hc h0;refine⟨b,off,rfl,hb,fun i hi=>?_⟩;obtain⟨cs,rfl,_,hj⟩:=hx i hi;simpa using hj 0 A0
theorem EM.next {I:Ins} {lk:Int} {s:St} {dl sl:List Int} {nx:Int} {s':St} {DN sl':List Int} (h:EM I lk s dl sl nx s' DN sl') (hh:s.hal=false) (ho:0≤I.op) :
  (s'.hal=true∧I.op=1)∨(s'.hal=false∧I.op≠1∧nx∈CN I s.pc∧(Cg I.op=false→nx=s.pc+1)):=by
 have plain:I.op≠1→Cg I.op=false→s.pc+1∈CN I s.pc:=fun h1 h2=>by
  unfold CN;unfold Cg at h2;simp only [dR,decide_eq_false_iff_not] at h2;rw [A6 h1,A6 h2.2,A6 A0];simp
 cases h with
 | plain h=>exact .inr ⟨hh,by omega,plain A0 YX,fun _=>rfl⟩
 | set v h=>
  have:I.op≠1∧¬(I.op=22∨I.op=23∨I.op=24):=by rcases h with h|h|h|h|h|h|h|h<;>omega
  exact .inr ⟨hh,this.1,plain this.1 YX,fun _=>rfl⟩
 | st h=>exact .inr ⟨hh,by omega,plain A0 YX,fun _=>rfl⟩
 | PD h=>exact .inr ⟨hh,by omega,plain A0 YX,fun _=>rfl⟩
 | br h=>
  have hb:=h;unfold Cg at hb;simp only [Yu,E4] at hb;refine .inr ⟨hh,by omega,?_,fun e=>by rw [h] at e;cases e⟩;unfold CN;rw [A6 A0];by_cases h24:I.op=24
  ·rw [A9 h24,A9 (by unfold taken;simp [h24])]
   simp
  ·rw [A6 h24,A9 A0]
   split<;>simp
 | lock h=>exact .inr ⟨hh,by omega,plain A0 YX,fun _=>rfl⟩
 | unlock h=>exact .inr ⟨hh,by omega,plain A0 YX,fun _=>rfl⟩
 | halt h=>exact .inl ⟨rfl,h⟩
section
variable {c:Int→Ins} {st en:Int} {D:List Int}
structure At (c:Int→Ins) (D:List Int) (L:List (Int×Int)) (pc:Int) (b:Nat):Prop where
 lt:b<L.length
 lo:(L[b]).1≤pc
 hi:pc<(L[b]).2
 mem:pc∈D
theorem tq {L:List (Int×Int)} (h:De c st en D L) {b:Nat} (hb:b<L.length):Og (BP c L) (L[b]).1=some b:=by
 have hlo:=h.b.lo _ (CQ hb);refine ep (Lv c L hb) ⟨EJ _,hlo.2.1⟩ (fun y hy=>?_);obtain⟨i,hi,e⟩:=Rk hy;rw [List.getElem_take] at e;have hib:i<b:=by simp at hi;omega
 have IY:i<L.length:=by omega
 have hx:=Lv c L IY;have he:(BP c L)[i]?=some y:=by rw [Ab (by rw [O8];exact IY),e]
 rw [hx] at he;cases he;rintro⟨h1,h2⟩;have:=(QS.1 h.b.Px) i b IY hb hib;simp only at h1 h2;omega
theorem At.step {L:List (Int×Int)} (hL:blk c st D (en - st).toNat=L) (h:De c st en D L) {pc:Int} {b:Nat} (ha:At c D L pc b) {nx:Int} (ho:(c pc).op≠1) (hn:nx∈CN (c pc) pc) (hp:Cg (c pc).op=false→nx=pc+1) :
  (pc<(L[b]'ha.lt).2 - 1→nx=pc+1∧At c D L nx b)∧
  (pc=(L[b]'ha.lt).2 - 1→∃k:Nat,k<L.length∧(L.getD k (0,0)).1=nx∧Og (BP c L) nx=some k∧(k:Int)∈EX c L b∧At c D L nx k):=by
 subst hL;have hlt:=ha.lt;refine⟨fun hlt'=>?_,fun he=>?_⟩
 ·have hin:=h.AG (CQ hlt) (x:=pc+1) (by have:=ha.lo;omega) A0
  have hbr:=hin.2.br;rw [show pc+1 - 1=pc by omega] at hbr;have e:=hp hbr;subst e;exact⟨rfl,hlt,by have:=ha.lo;omega,by omega,hin.1⟩
 ·have hn':nx∈CN (c ((blk c st D (en - st).toNat)[b].2 - 1)) ((blk c st D (en - st).toNat)[b].2 - 1):=by rw [←he];exact hn
  obtain⟨hD,q,hq,e⟩:=h.succ (CQ hlt) hn';obtain⟨k,hk,e2⟩:=Rk hq;have e3:((blk c st D (en - st).toNat)[k]).1=nx:=by rw [e2];exact e
  refine⟨k,hk,by simp [List.getD,Ab hk,e3],by rw [←e3];exact tq h hk,?_,hk,by rw [e3];exact EJ _,by have:=h.b.lo _ (CQ hk);omega,hD⟩;unfold EX;rw [cJ];refine⟨nx,?_,?_⟩
  ·have hla:JV (blk c st D (en - st).toNat) b=(blk c st D (en - st).toNat)[b].2 - 1:=by simp [JV,List.getD,Ab hlt]
   rw [hla];exact hn'
  ·rw [←e3,jL h hk]
theorem At.halt {L:List (Int×Int)} (hL:blk c st D (en - st).toNat=L) (h:De c st en D L) {pc:Int} {b:Nat} (ha:At c D L pc b) (ho:(c pc).op=1):pc=(L[b]'ha.lt).2 - 1∧EX c L b=[]:=by
 subst hL;have hlt:=ha.lt;have he:pc=((blk c st D (en - st).toNat)[b]).2 - 1:=by
  rcases Int.lt_or_le pc (((blk c st D (en - st).toNat)[b]).2 - 1) with h1|h1
  ·have hin:=h.AG (CQ hlt) (x:=pc+1) (by have:=ha.lo;omega) A0
   have:=hin.2.halt;rw [show pc+1 - 1=pc by omega] at this;exact absurd ho this
  ·have:=ha.hi;omega
 exact⟨he,De.asv hlt (by rw [←he];exact ho)⟩
end
end
end Go.Proofs.YtlmgkipmfgijiaaGreatDoor
