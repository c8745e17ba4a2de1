/-
  What is proved here: parts bKb.
-/
import Derived.Test.YtlmgkipmfgijiaaGreatDoorVa
import Derived.Test.YtlmgkipmfgijiaaGreatDoorVi
import Derived.Deep.RegionWith
import Derived.Deep.RegionHeld3
import Derived.Deep.DeepCutAuto
namespace Go.Proofs.YtlmgkipmfgijiaaGreatDoor
set_option linter.unusedVariables false
set_option linter.unusedSimpArgs false
set_option maxRecDepth 100000
set_option maxHeartbeats 8000000
open Go.RowKit
theorem ZV (v:Int):AL (wrap32 v):=by unfold AL wrap32;omega
theorem yE (op:BinOp) (a b:Int):bits op .i32 a b=wrap32 ((match op with
  | .and=>BitVec.ofInt 32 a &&& BitVec.ofInt 32 b
  | .or=>BitVec.ofInt 32 a ||| BitVec.ofInt 32 b
  | .xor=>BitVec.ofInt 32 a ^^^ BitVec.ofInt 32 b
  | _=>BitVec.ofInt 32 a &&& ~~~(BitVec.ofInt 32 b)).toNat:Nat):=by
 have w:∀n:Int,IntKind.i32.wrap n=wrap32 n:=fun n=>by rw [pZ,wrap32]
 rw [←w];cases op<;>rfl
theorem wG (op:BinOp) (a b:Int):AL (bits op .i32 a b):=by rw [yE];exact ZV _
theorem auJ (n:Int):IntKind.i32.wrap n=wrap32 n:=by rw [pZ,wrap32]
theorem zR {x y:Int} (h:AL x):AL (x.tmod y):=by
 unfold AL at *;have h1:=Int.natAbs_tmod x y;have h2:x.natAbs % y.natAbs≤x.natAbs:=Nat.mod_le _ _;by_cases h0:0≤x
 ·have:=Xu y h0
  omega
 ·have h3:0≤(-x).tmod y:=Xu y A0
  rw [Int.neg_tmod] at h3;omega
theorem asx {x:Int} (h:AL x) (n:Nat):AL (x / 2 ^ n):=by
 unfold AL at *;have h1:(0:Int)<2 ^ n:=Int.pow_pos AP;by_cases h0:0≤x
 ·have:=Int.ediv_nonneg h0 (Int.le_of_lt h1)
  have:=Int.ediv_le_self (2 ^ n) h0;omega
 ·have h2:x≤x / 2 ^ n:=Int.le_ediv_of_mul_le h1 (by
   have:x*2 ^ n≤x*1:=jt A0 A0
   omega)
  have h3:x / 2 ^ n<0:=Int.ediv_neg_of_neg_of_pos A0 h1;omega
theorem aga (b:Bool):AL (EH b):=by cases b<;>(unfold AL EH;simp)
theorem atF:AL 0:=by unfold AL;omega
theorem alp {c:Prop} [Decidable c] {a b:Int} (ha:AL a) (hb:AL b):AL (if c then a else b):=by split<;>assumption
theorem arV (op:Int) {x y:Int} (hx:AL x) (hy:AL y):AL (wv op x y):=by
 unfold wv
 repeat' (first|exact ZV _|exact wG _ _ _|exact aga _|exact atF|exact zR hx|exact asx hx _|refine alp ?_ ?_)
theorem rD {l:List Int} (h:∀x∈l,AL x) (k:Nat):AL (l.getD k 0):=by
 by_cases hk:k<l.length
 ·have e:l.getD k 0=l[k]:=by simp [List.getD,Ab hk]
  rw [e];exact h _ (CQ hk)
 ·have e:l.getD k 0=0:=by simp [List.getD,Dy (kF hk)]
  rw [e];unfold AL;omega
theorem w8 {l:List Int} (h:∀x∈l,AL x) {k:Nat} {v:Int} (hv:AL v):∀x∈l.set k v,AL x:=fun x hx=>by
 rcases VQ hx with h1|rfl
 ·exact h x h1
 ·exact hv
theorem atM {w:World} {sb c0 ib mc ac ad mb cap a:Nat} {b im:Int} {s:St} {dl:List Int} {sv:Value} {sl:List Int} (hJ:DG w sb s dl sv sl) (ha:a<16) (hmb:s.d=.slice (some ⟨mb,0,none⟩) dl.length cap) (hn:ad<dl.length) (had:(ad:Int)=A7 s b+im)
  (k0:w.cell? ⟨c0,0,none⟩=some (.pointer (some ⟨sb,0,none⟩))) (k1:w.cell? ⟨ib,1,none⟩=some (.int .i64 (a:Int))) (k2:w.cell? ⟨mc,0,none⟩=some s.d) (k3:w.cell? ⟨ac,0,none⟩=some (.int .i64 (ad:Int))) :
  Qm (.func (.func 111) #[] #[.pointer (some ⟨c0,0,none⟩),.pointer (some ⟨ib,0,none⟩),.pointer (some ⟨mc,0,none⟩),.pointer (some ⟨ac,0,none⟩)]) w fun w2=>DG w2 sb s (dl.set (A7 s b+im).toNat (A7 s (a:Int))) sv sl∧Fr (Jb sb s.d sv) w w2:=by
 have hd:=hJ.d;rw [hmb] at hd k2;refine⟨_,_,rfl,fun w=>by kernel_rfl,(wP mb dl.length cap ad sb c0 ib mc ac 0 ⟨0,a,b,0,im⟩ a rfl ha hn hJ.dn s dl w k1 k0 k2 k3 hJ.m hd).mono fun e w' ⟨h1,h2,h3⟩=>⟨h1,?_,h3.mono fun k _ e=>.inr (.inl (by rw [hmb,e];rfl))⟩⟩;rw [←had,Cu,M9];have JK:mb≠sb:=fun e=>hJ.dne (by rw [hmb,e];rfl);refine⟨hJ.m.keep (h3.block sb hJ.m.lt (fun e=>JK e.symm)),by rw [LB,hmb];exact h2,h3.own hJ.sh (fun q hq e=>hJ.ne mb (by rw [hmb];rfl) (by rw [←e];exact hq)),hJ.ne,w8 hJ.dw (hJ.m.Oi a),hJ.sw,by rw [LB];exact hJ.dn,hJ.sn⟩
theorem aql {w:World} {sb c0 ib mc ac ad mb cap a:Nat} {b im:Int} {s:St} {dl:List Int} {sv:Value} {sl:List Int} (hJ:DG w sb s dl sv sl) (ha:a<16) (hmb:sv=.slice (some ⟨mb,0,none⟩) sl.length cap) (hn:ad<sl.length) (had:(ad:Int)=A7 s b+im)
  (k0:w.cell? ⟨c0,0,none⟩=some (.pointer (some ⟨sb,0,none⟩))) (k1:w.cell? ⟨ib,1,none⟩=some (.int .i64 (a:Int))) (k2:w.cell? ⟨mc,0,none⟩=some sv) (k3:w.cell? ⟨ac,0,none⟩=some (.int .i64 (ad:Int))) :
  Qm (.func (.func 111) #[] #[.pointer (some ⟨c0,0,none⟩),.pointer (some ⟨ib,0,none⟩),.pointer (some ⟨mc,0,none⟩),.pointer (some ⟨ac,0,none⟩)]) w fun w2=>DG w2 sb s dl sv (sl.set (A7 s b+im).toNat (A7 s (a:Int)))∧Fr (Jb sb s.d sv) w w2:=by
 have hd:=hJ.sh;rw [hmb] at hd k2;refine⟨_,_,rfl,fun w=>by kernel_rfl,(wP mb sl.length cap ad sb c0 ib mc ac 0 ⟨0,a,b,0,im⟩ a rfl ha hn hJ.sn s sl w k1 k0 k2 k3 hJ.m hd).mono fun e w' ⟨h1,h2,h3⟩=>⟨h1,?_,h3.mono fun k _ e=>.inr (.inr (by rw [hmb,e];rfl))⟩⟩;rw [←had,Cu,M9];have JK:mb≠sb:=fun e=>hJ.sne (by rw [hmb,e];rfl);refine⟨hJ.m.keep (h3.block sb hJ.m.lt (fun e=>JK e.symm)),h3.own hJ.d (fun q hq e=>hJ.ne q hq (by rw [hmb,← e];rfl)),by rw [LB,hmb];exact h2,hJ.ne,hJ.dw,w8 hJ.sw (hJ.m.Oi a),hJ.dn,by rw [LB];exact hJ.sn⟩
theorem aeg {w:World} {sb ib cb:Nat} {im:Int} {s:St} {dl:List Int} {sv:Value} {sl:List Int} (hJ:DG w sb s dl sv sl) (k0:w.cell? ⟨ib,4,none⟩=some (.int .i64 im)) (k1:w.cell? ⟨cb,0,none⟩=some (.pointer (some ⟨sb,0,none⟩))) :
  Qm (.func (.func 112) #[] #[.pointer (some ⟨ib,0,none⟩),.pointer (some ⟨cb,0,none⟩)]) w fun w2=>DG w2 sb { s with held:=im } dl sv sl∧Fr (Jb sb s.d sv) w w2:=
 ⟨_,_,rfl,fun w=>by kernel_rfl,(yw sb ib cb im s w k0 k1 hJ.m).mono fun e w' ⟨h1,h2,h3⟩=>⟨h1,hJ.state h2 h3 rfl,h3.mono fun k _ e=>.inl e⟩⟩
theorem adJ {w:World} {sb cb:Nat} {s:St} {dl:List Int} {sv:Value} {sl:List Int} (hJ:DG w sb s dl sv sl) (k1:w.cell? ⟨cb,0,none⟩=some (.pointer (some ⟨sb,0,none⟩))) :
  Qm (.func (.func 113) #[] #[.pointer (some ⟨cb,0,none⟩)]) w fun w2=>DG w2 sb { s with held:=-1 } dl sv sl∧Fr (Jb sb s.d sv) w w2:=
 ⟨_,_,rfl,fun w=>by kernel_rfl,(zJ sb cb s w k1 hJ.m).mono fun e w' ⟨h1,h2,h3⟩=>⟨h1,hJ.state h2 h3 rfl,h3.mono fun k _ e=>.inl e⟩⟩
theorem asq {w:World} {sb cb:Nat} {s:St} {dl:List Int} {sv:Value} {sl:List Int} (hJ:DG w sb s dl sv sl) (k1:w.cell? ⟨cb,0,none⟩=some (.pointer (some ⟨sb,0,none⟩))) :
  Qm (.func (.func 114) #[] #[.pointer (some ⟨cb,0,none⟩)]) w fun w2=>DG w2 sb { s with hal:=true } dl sv sl∧Fr (Jb sb s.d sv) w w2:=
 ⟨_,_,rfl,fun w=>by kernel_rfl,(asn sb cb s w k1 hJ.m).mono fun e w' ⟨h1,h2,h3⟩=>⟨h1,hJ.state h2 h3 rfl,h3.mono fun k _ e=>.inl e⟩⟩
theorem abg (xb sb:Nat) (op im lk:Int) (a b c:Nat) (ha:a<16) (hb:b<16) (hc:c<16) (him : -131072≤im∧im≤131071) (s:St) (hpc:0≤s.pc∧s.pc≤1000000) (dl:List Int) (sv:Value) (sl:List Int) (pv:Value) (Sp:Nat→Prop) (Rp:World→Prop) (w:World)
  (hx:w.heap[xb]?=some (.cells (Bo ⟨op,a,b,c,im⟩ s.pc false (-1) 0 sb (s.pc+1)) 141 (0,0))) (hJ:DG w sb s dl sv sl) (Ta:¬Jb sb s.d sv xb) (h30:0≤op∧op<30) (h16:op=16→0≤im∧im≤31) (hT:∀k,2≤k→k≤13→w.cell? ⟨1,k,none⟩=some (.int .u8 (Ru (k:Int)))) (hT1:1<w.heap.size) (HP:Port w pv Sp Rp) (QT:¬Sp xb) (hsj:∀k,Jb sb s.d sv k→¬Sp k) :
  Calls Tryz.prog 57 #[.pointer (some ⟨xb,0,none⟩),.int .i64 lk,sv,pv] w (GI w xb sb ⟨op,a,b,c,im⟩ lk s dl sv sl Sp Rp):=by
 have⟨HTT,RV,H16⟩:=Bh hT hsj h16;clear hT hsj h16;have⟨HX,HJ,Ll⟩:=Bh hx hJ Ta;obtain⟨x0,x1,x2,x3,x4,x5,-,-,-,x9,-,xf⟩:=D9 hx;have lx:=Ak hx;clear hx hJ Ta xf;simp only at x0 x1 x2 x3 x4;go_enter Tryz.func57,Tryz.ntmps57;go_upto_region 1 with fail;go_cut [10,11] from 14 to 22 (fun a10 a11 wx=>∃ib,a10=.pointer (some ⟨ib,0,none⟩)∧a11=.pointer (some ⟨sb,0,none⟩)∧wx.heap[ib]?=some (.cells #[.int .u8 op,.int .i64 a,.int .i64 b,.int .i64 c,.int .i64 im] 67 (0,0))∧Below w.heap.size w wx)
 case first=>
  go_region
  all_goals
   go_wp2_with fail;go_meet;case rel=>exact⟨_,rfl,rfl,by first|exact AY _ _|(rw [World.drew];exact AY _ _),(Dl (AV _ _)).alloc AR _⟩
 case rest=>
  obtain⟨ib,rfl,rfl,Bp,Am⟩:=hcut;obtain⟨W1,hW1⟩:∃W1:World,W1=wc:=⟨_,rfl⟩;subst hW1;obtain⟨i0,i1,i2,i3,i4,li⟩:=Gg Bp;have⟨Ay,BC,BW⟩:=Bh (HJ.out.later Am) ((Am.block xb lx).trans HX.out) Am;have lx1:xb<W1.heap.size:=Ak BC.out;have lsb:=Ay.out.m.lt;have Oc:=Ay.out.m.A7 ha;have JD:=Ay.out.m.A7 hb;have rgc:=Ay.out.m.A7 hc;have rdd:=Ay.out.m.dat;have ga:(a:Int)<16:=by omega
  have gb:(b:Int)<16:=by omega
  have gc:(c:Int)<16:=by omega
  have ga2:decide ((16:Int)≤(a:Int))=false:=Ad A0;have gb2:decide ((16:Int)≤(b:Int))=false:=Ad A0;have gc2:decide ((16:Int)≤(c:Int))=false:=Ad A0;have wra:=Ay.out.m.Oi a;have J4:=Ay.out.m.Oi b;have wrc:=Ay.out.m.Oi c;obtain⟨va,JQ⟩:=A8 (s.r.getD a 0);obtain⟨vb,GL⟩:=A8 (s.r.getD b 0);obtain⟨vc,VW⟩:=A8 (s.r.getD c 0);rw [JQ] at Oc wra;rw [GL] at JD J4;rw [VW] at rgc wrc;have Co:=A3 (show A7 s (a:Int)=va by rw [M9];exact JQ);have GY:=A3 (show A7 s (b:Int)=vb by rw [M9];exact GL);have HVC:=A3 (show A7 s (c:Int)=vc by rw [M9];exact VW);have wi:IntKind.i32.wrap im=im:=IntWalk.i32_in _ A0;have wi2:wrap32 im=im:=IntWalk.wrap32_in _ A0;clear JQ GL VW;have UN:=A3 (show ∀(v:Int) (W:World),Below W1.heap.size W1 W→Calls Tryz.prog 91 #[.pointer (some ⟨xb,0,none⟩),.int .i32 v] W fun e w'=>(∃c0 c1,e=.returned (.func (.func 110) #[] #[.pointer (some ⟨c0,0,none⟩),.pointer (some ⟨c1,0,none⟩)])∧w'.cell? ⟨c0,0,none⟩=some (.pointer (some ⟨xb,0,none⟩))∧w'.cell? ⟨c1,0,none⟩=some (.int .i32 v))∧Below W1.heap.size W1 w' from fun v W hW=>(aZ xb v W).mono fun e w' ⟨h1,h2⟩=>⟨h1,hW.trans (h2.mono hW.size)⟩);clear Bp Am x0 x1 x2 x3 x4 x5 x9;have hk:op=14∨op=15∨op=16∨op=17∨op=0∨op=25∨op=27∨op=18∨op=19∨op=20∨op=21∨op=22∨op=23∨op=24∨op=28∨op=29∨op=1∨op=26∨(2≤op∧op≤13):=by omega
  clear h30;rcases hk with rfl|rfl|rfl|rfl|rfl|rfl|rfl|rfl|rfl|rfl|rfl|rfl|rfl|rfl|rfl|rfl|rfl|rfl|ho0
  ·as_aux_lemma=>
    go_wp2_with (go_at_call 91;refine (UN.out _ _ Wx).mono ?_;rintro e W2 ⟨⟨c0,c1,rfl,k0,k1⟩,hb2⟩)
    go_returns
    have Fc:=(hb2.block xb lx1).trans BC.out;have hW3:AL (im):=by unfold AL;omega
    exact GI.same rfl Fc ((Fr.of BW.out).trans (Fr.of hb2)) (.set (im) (.inl ⟨rfl,rfl⟩)) (fun h=>by first|(simp at h;done)|(simp only at h;have:=HO.out;omega)) (Q1 (Ay.out.later hb2) AR GD hW3 Fc k0 Xt)
  ·as_aux_lemma=>
    go_upto_region 8 with fail;go_region_held3 (fun w'=>(∀b o,b<W1.heap.size→w'.cell? ⟨b,o,none⟩=W1.cell? ⟨b,o,none⟩)∧Below W1.heap.size W1 w') ((refine dO ?_;(repeat (first|(with_reducible assumption)|exact AV _ _|(with_reducible exact Ext.h _)|(with_reducible refine Dl ?_)|(with_reducible refine MU ?_ ?_ _)|(with_reducible refine CY ?_ ?_ _)|exact AH _|exact (Ext.h _).size|(exact Y9 Mz)|(simp;done)|(simp;omega))))) (first|(go_at_call 91;refine (UN.out _ _ Wx).mono ?_;rintro e W2 ⟨⟨c0,c1,rfl,k0,k1⟩,hb2⟩))
    all_goals
     go_wp2_with fail
     go_returns
     have Fc:=(hb2.block xb lx1).trans BC.out;have hW3:AL (wrap32 (vb+im)):=ZV _;exact GI.same rfl Fc ((Fr.of BW.out).trans (Fr.of hb2)) (.set (wrap32 (vb+im)) (.inr (.inl ⟨rfl,by simp only;rw [GY.out]⟩))) (fun h=>by first|(simp at h;done)|(simp only at h;have:=HO.out;omega)) (Q1 (Ay.out.later hb2) AR GD hW3 Fc k0 Xt)
  ·as_aux_lemma=>
    obtain⟨hi0,hi1⟩:=H16.out rfl;have d1:decide (im<0)=false:=Ad A0;have d2:decide (32≤im)=false:=Ad A0;go_upto_region 10 with fail;go_region_held3 (fun w'=>(∀b o,b<W1.heap.size→w'.cell? ⟨b,o,none⟩=W1.cell? ⟨b,o,none⟩)∧Below W1.heap.size W1 w') ((refine dO ?_;(repeat (first|(with_reducible assumption)|exact AV _ _|(with_reducible exact Ext.h _)|(with_reducible refine Dl ?_)|(with_reducible refine MU ?_ ?_ _)|(with_reducible refine CY ?_ ?_ _)|exact AH _|exact (Ext.h _).size|(exact Y9 Mz)|(simp;done)|(simp;omega))))) (first|(go_at_call 91;refine (UN.out _ _ Wx).mono ?_;rintro e W2 ⟨⟨c0,c1,rfl,k0,k1⟩,hb2⟩))
    all_goals
     go_wp2_with fail
     go_returns
     have Fc:=(hb2.block xb lx1).trans BC.out;have hW3:AL (wrap32 (vb*2 ^ im.toNat)):=ZV _;exact GI.same rfl Fc ((Fr.of BW.out).trans (Fr.of hb2)) (.set (wrap32 (vb*2 ^ im.toNat)) (.inr (.inr (.inl ⟨rfl,by simp only;rw [GY.out]⟩)))) (fun h=>by first|(simp at h;done)|(simp only at h;have:=HO.out;omega)) (Q1 (Ay.out.later hb2) AR GD hW3 Fc k0 Xt)
  ·as_aux_lemma=>
    go_upto_region 12 with fail;go_region_held3 (fun w'=>(∀b o,b<W1.heap.size→w'.cell? ⟨b,o,none⟩=W1.cell? ⟨b,o,none⟩)∧Below W1.heap.size W1 w') ((refine dO ?_;(repeat (first|(with_reducible assumption)|exact AV _ _|(with_reducible exact Ext.h _)|(with_reducible refine Dl ?_)|(with_reducible refine MU ?_ ?_ _)|(with_reducible refine CY ?_ ?_ _)|exact AH _|exact (Ext.h _).size|(exact Y9 Mz)|(simp;done)|(simp;omega))))) (first|(go_at_call 91;refine (UN.out _ _ Wx).mono ?_;rintro e W2 ⟨⟨c0,c1,rfl,k0,k1⟩,hb2⟩))
    all_goals
     go_wp2_with fail
     go_returns
     have Fc:=(hb2.block xb lx1).trans BC.out;have hW3:AL (bits .or .i32 vb im):=wG _ _ _;exact GI.same rfl Fc ((Fr.of BW.out).trans (Fr.of hb2)) (.set (bits .or .i32 vb im) (.inr (.inr (.inr (.inl ⟨rfl,by simp only;rw [GY.out]⟩))))) (fun h=>by first|(simp at h;done)|(simp only at h;have:=HO.out;omega)) (Q1 (Ay.out.later hb2) AR GD hW3 Fc k0 Xt)
  ·as_aux_lemma=>
    go_wp2_with fail;go_ret2;exact GI.same rfl BC.out (Fr.of BW.out) (.plain (.inl rfl)) (fun h=>by simp at h) (Wa Ay.out)
  ·as_aux_lemma=>
    by_cases h1:va<0
    ·have d:=Ac h1
     clear h1;go_upto_region 24 with fail;refine C7 A4 A4 ?_;repeat (go_big_quiet_step (fail))
     refine BD ?_;rintro _ ⟨y,rfl⟩;go_wp2_with fail;go_ret2;exact .inl ⟨_,_,by decide,rfl,Ext.below BW.out BW.out.size y⟩
    have d:=Ad h1;by_cases h2:im≤va
    ·have d2:=Ac h2
     have wva:IntKind.i64.wrap va=va:=Dn _ (by unfold AL at wra;omega);clear h1 h2;go_upto_region 24 with fail;refine C7 A4 A4 ?_;repeat (go_big_quiet_step (fail))
     refine BD ?_;rintro _ ⟨y,rfl⟩;go_wp2_with fail;go_ret2;exact .inl ⟨_,_,by decide,rfl,Ext.below BW.out BW.out.size y⟩
    have d2:=Ad h2;have wva:IntKind.i64.wrap va=va:=Dn _ (by unfold AL at wra;omega);have H12:=A3 (Eg h1 h2);clear h1 h2;go_upto_region 24 with fail;refine C7 A4 A4 ?_;repeat (go_big_quiet_step (fail))
    refine BD ?_;rintro _ ⟨y,rfl⟩;go_wp2_with fail;go_ret2;exact GI.same rfl ((y.h.block xb lx1).trans BC.out) (Fr.of (Ext.below BW.out BW.out.size y)) (.plain (.inr (.inr ⟨rfl,by simp only;rw [Co.out];have:=H12.out.1;omega,by simp only;rw [Co.out];have:=H12.out.2;omega⟩))) (fun h=>by simp at h) (Wa (Ay.out.later y.h))
  ·as_aux_lemma=>
    obtain⟨y0,y1,y2,y3,y4,y5,y6,y7,y8,y9,y10,yf⟩:=D9 BC.out;have yf8:=yf 8;clear yf;go_upto_region 32 with fail;go_cut [8] from 149 to 159 (fun a8 wx=>a8=.nilFunc∧wx.heap[xb]?=some (.cells (Bo ⟨27,a,b,c,im⟩ s.pc false (-1) va sb (s.pc+1)) 141 (0,0))∧Fr (· = xb) W1 wx)
    case first=>
     go_region
     all_goals
      go_wp2_with fail;go_meet;case rel=>exact⟨rfl,(Cl W1 xb 8 _ _ (.int .i32 va) BC.out).trans rfl,((Fr.refl (· = xb) W1).set (o:=8) (.int .i32 va) (.inl rfl)).drew⟩
    case rest=>
     obtain⟨rfl,k3,f3⟩:=hcut;go_wp2_with fail;go_ret2;exact GI.same rfl k3 ((Fr.of BW.out).trans f3) (.plain (.inr (.inl rfl))) (fun _=>Co.out.symm) (Wa (Ay.out.keep f3 (fun k hk e=>Ll.out P7)))
  ·as_aux_lemma=>
    obtain⟨mA,I1,Gw⟩:∃mA I1,s.d=.slice mA dl.length I1:=by
     rcases Ay.out.d.2 with⟨h,h'⟩|⟨g,cap,cur,h,_⟩
     ·exact⟨_,_,by rw [h,h']⟩
     ·exact⟨_,_,h⟩
    have Nc:=A3 Gw;have HBR:=A3 (show 0≤vb∨vb<0 from by omega);obtain⟨mv,M4⟩:=A8 s.d;have Pg:=A3 M4;rw [M4] at rdd;clear Gw M4;by_cases Ff:vb+im<0∨(dl.length:Int)≤vb+im
    ·have Iy:=A3 (aX xb sb 18 im a b c hb him s s.d mA dl.length I1 Nc.out Ay.out.dn fY W1 BC.out Ay.out.m)
     rw [Pg.out] at Iy;clear Ff;go_wp2_with (go_at_call 92;refine Iy.out.mono ?_;rintro e W2 ⟨rfl,hb2⟩);go_ret2;exact .inl ⟨_,_,by decide,rfl,BW.out.trans (hb2.mono BW.out.size)⟩
    have HB:=A3 (show 0≤A7 s (b:Int)+im∧A7 s (b:Int)+im<(dl.length:Int) by rw [GY.out];omega);clear Ff;have Iy:=A3 (aqd xb sb im a b c hb him s s.d mA dl.length I1 Nc.out Ay.out.dn dl HB.out.1 HB.out.2 W1 BC.out Ay.out.m Ay.out.d);rw [Pg.out] at Iy;go_wp2_with (go_at_call 92;refine Iy.out.mono ?_;rintro e W2 ⟨⟨c0,c1,rfl,k0,k1⟩,hx2,f2⟩);go_ret2;have hJ2:=Ay.out.keep f2 (fun k hk e=>Ll.out P7);exact GI.same rfl hx2 ((Fr.of BW.out).trans f2) (.set (dl.getD (A7 s (b:Int)+im).toNat 0) (.inr (.inr (.inr (.inr (.inl ⟨rfl,HB.out.1,HB.out.2,rfl⟩)))))) (fun h=>by simp at h) (Q1 hJ2 AR GD (rD Ay.out.dw _) hx2 k0 k1)
  ·as_aux_lemma=>
    obtain⟨mA,I1,Gw⟩:∃mA I1,s.d=.slice mA dl.length I1:=by
     rcases Ay.out.d.2 with⟨h,h'⟩|⟨g,cap,cur,h,_⟩
     ·exact⟨_,_,by rw [h,h']⟩
     ·exact⟨_,_,h⟩
    have Nc:=A3 Gw;have HBR:=A3 (show 0≤vb∨vb<0 from by omega);obtain⟨mv,M4⟩:=A8 s.d;have Pg:=A3 M4;rw [M4] at rdd;clear Gw M4;by_cases Ff:vb+im<0∨(dl.length:Int)≤vb+im
    ·have Iy:=A3 (aX xb sb 19 im a b c hb him s s.d mA dl.length I1 Nc.out Ay.out.dn fY W1 BC.out Ay.out.m)
     rw [Pg.out] at Iy;clear Ff;go_wp2_with (go_at_call 92;refine Iy.out.mono ?_;rintro e W2 ⟨rfl,hb2⟩);go_ret2;exact .inl ⟨_,_,by decide,rfl,BW.out.trans (hb2.mono BW.out.size)⟩
    have HB:=A3 (show 0≤A7 s (b:Int)+im∧A7 s (b:Int)+im<(dl.length:Int) by rw [GY.out];omega);clear Ff;have Iy:=A3 (aqt xb sb im a b c hb him s s.d mA dl.length I1 Nc.out Ay.out.dn dl HB.out.1 HB.out.2 W1 BC.out Ay.out.m Ay.out.d);go_wp2_with (go_at_call 92;rw [←Pg.out];refine Iy.out.mono ?_;rintro e W2 ⟨⟨c0,ib2,mc,ac,ad,mb,rfl,hmb,ML,had,k0,k1,k2,k3⟩,hx2,f2⟩);go_ret2;have hJ2:=Ay.out.keep f2 (fun k hk e=>Ll.out P7);exact GI.same rfl hx2 ((Fr.of BW.out).trans f2) (.st rfl HB.out.1 HB.out.2) (fun h=>by simp at h) (atM hJ2 ha hmb ML had k0 k1 k2 k3)
  ·as_aux_lemma=>
    obtain⟨mA,I1,Gw⟩:∃mA I1,sv=.slice mA sl.length I1:=by
     rcases Ay.out.sh.2 with⟨h,h'⟩|⟨g,cap,cur,h,_⟩
     ·exact⟨_,_,by rw [h,h']⟩
     ·exact⟨_,_,h⟩
    have Nc:=A3 Gw;have HBR:=A3 (show 0≤vb∨vb<0 from by omega);obtain⟨mv,M4⟩:=A8 sv;have Pg:=A3 M4;subst M4;clear Gw;by_cases Ff:vb+im<0∨(sl.length:Int)≤vb+im
    ·have Iy:=A3 (aX xb sb 20 im a b c hb him s sv mA sl.length I1 Nc.out Ay.out.sn fY W1 BC.out Ay.out.m)
     clear Ff;go_wp2_with (go_at_call 92;refine Iy.out.mono ?_;rintro e W2 ⟨rfl,hb2⟩);go_ret2;exact .inl ⟨_,_,by decide,rfl,BW.out.trans (hb2.mono BW.out.size)⟩
    have HB:=A3 (show 0≤A7 s (b:Int)+im∧A7 s (b:Int)+im<(sl.length:Int) by rw [GY.out];omega);clear Ff;have Iy:=A3 (arO xb sb im a b c hb him s sv mA sl.length I1 Nc.out Ay.out.sn sl HB.out.1 HB.out.2 W1 BC.out Ay.out.m Ay.out.sh);go_wp2_with (go_at_call 92;refine Iy.out.mono ?_;rintro e W2 ⟨⟨c0,c1,rfl,k0,k1⟩,hx2,f2⟩);go_ret2;have hJ2:=Ay.out.keep f2 (fun k hk e=>Ll.out P7);exact GI.same rfl hx2 ((Fr.of BW.out).trans f2) (.set (sl.getD (A7 s (b:Int)+im).toNat 0) (.inr (.inr (.inr (.inr (.inr (.inl ⟨rfl,HB.out.1,HB.out.2,rfl⟩))))))) (fun h=>by simp at h) (Q1 hJ2 AR GD (rD Ay.out.sw _) hx2 k0 k1)
  ·as_aux_lemma=>
    obtain⟨mA,I1,Gw⟩:∃mA I1,sv=.slice mA sl.length I1:=by
     rcases Ay.out.sh.2 with⟨h,h'⟩|⟨g,cap,cur,h,_⟩
     ·exact⟨_,_,by rw [h,h']⟩
     ·exact⟨_,_,h⟩
    have Nc:=A3 Gw;have HBR:=A3 (show 0≤vb∨vb<0 from by omega);obtain⟨mv,M4⟩:=A8 sv;have Pg:=A3 M4;subst M4;clear Gw;by_cases Ff:vb+im<0∨(sl.length:Int)≤vb+im
    ·have Iy:=A3 (aX xb sb 21 im a b c hb him s sv mA sl.length I1 Nc.out Ay.out.sn fY W1 BC.out Ay.out.m)
     clear Ff;go_wp2_with (go_at_call 92;refine Iy.out.mono ?_;rintro e W2 ⟨rfl,hb2⟩);go_ret2;exact .inl ⟨_,_,by decide,rfl,BW.out.trans (hb2.mono BW.out.size)⟩
    have HB:=A3 (show 0≤A7 s (b:Int)+im∧A7 s (b:Int)+im<(sl.length:Int) by rw [GY.out];omega);clear Ff;have Iy:=A3 (adG xb sb im a b c hb him s sv mA sl.length I1 Nc.out Ay.out.sn sl HB.out.1 HB.out.2 W1 BC.out Ay.out.m Ay.out.sh);go_wp2_with (go_at_call 92;refine Iy.out.mono ?_;rintro e W2 ⟨⟨c0,ib2,mc,ac,ad,mb,rfl,hmb,ML,had,k0,k1,k2,k3⟩,hx2,f2⟩);go_ret2;have hJ2:=Ay.out.keep f2 (fun k hk e=>Ll.out P7);exact GI.same rfl hx2 ((Fr.of BW.out).trans f2) (.PD rfl HB.out.1 HB.out.2) (fun h=>by simp at h) (aql hJ2 ha hmb ML had k0 k1 k2 k3)
  ·as_aux_lemma=>
    have RO:=A3 (asE xb sb im b c a ha him s hpc W1 BC.out Ay.out.m);unfold V9 at RO;go_wp2_with (go_at_call 93;refine RO.out.mono ?_;rintro e W2 ⟨rfl,⟨tk,hx2⟩,f2⟩);go_ret2;exact GI.same rfl hx2 ((Fr.of BW.out).trans f2) (.br rfl) (fun h=>by simp at h) (Wa (Ay.out.keep f2 (fun k hk e=>Ll.out P7)))
  ·as_aux_lemma=>
    have RO:=A3 (ar2 xb sb im b c a ha him s hpc W1 BC.out Ay.out.m);unfold V9 at RO;go_wp2_with (go_at_call 93;refine RO.out.mono ?_;rintro e W2 ⟨rfl,⟨tk,hx2⟩,f2⟩);go_ret2;exact GI.same rfl hx2 ((Fr.of BW.out).trans f2) (.br rfl) (fun h=>by simp at h) (Wa (Ay.out.keep f2 (fun k hk e=>Ll.out P7)))
  ·as_aux_lemma=>
    have RO:=A3 (as7 xb sb im b c a ha him s hpc W1 BC.out Ay.out.m);unfold V9 at RO;go_wp2_with (go_at_call 93;refine RO.out.mono ?_;rintro e W2 ⟨rfl,⟨tk,hx2⟩,f2⟩);go_ret2;exact GI.same rfl hx2 ((Fr.of BW.out).trans f2) (.br rfl) (fun h=>by simp at h) (Wa (Ay.out.keep f2 (fun k hk e=>Ll.out P7)))
  ·as_aux_lemma=>
    by_cases hcd:s.held<0∧im<lk;case neg=>
     have Nd:=A3 (zo xb sb im lk a b c s hcd W1 BC.out Ay.out.m);clear hcd;go_wp2_with (go_at_call 94;refine Nd.out.mono ?_;rintro e W2 ⟨rfl,hb2⟩);go_ret2;exact .inl ⟨_,_,by decide,rfl,BW.out.trans (hb2.mono BW.out.size)⟩
    have⟨RH,Nd⟩:=AQ hcd (yK xb sb im lk a b c s hcd.1 hcd.2 W1 BC.out Ay.out.m);clear hcd;go_wp2_with (go_at_call 94;refine Nd.out.mono ?_;rintro e W2 ⟨⟨ib2,cb,rfl,k0,k1⟩,hb2⟩);go_ret2;exact GI.same rfl ((hb2.block xb lx1).trans BC.out) (Fr.of (BW.out.trans (hb2.mono BW.out.size))) (.lock rfl RH.out.1 RH.out.2) (fun h=>by simp at h) (aeg (Ay.out.later hb2) k0 k1)
  ·as_aux_lemma=>
    by_cases hcd:s.held=im;case neg=>
     have Nd:=A3 (aeX xb sb im lk a b c s hcd W1 BC.out Ay.out.m);clear hcd;go_wp2_with (go_at_call 94;refine Nd.out.mono ?_;rintro e W2 ⟨rfl,hb2⟩);go_ret2;exact .inl ⟨_,_,by decide,rfl,BW.out.trans (hb2.mono BW.out.size)⟩
    have⟨RH,Nd⟩:=AQ hcd (aqY xb sb im lk a b c s hcd W1 BC.out Ay.out.m);clear hcd;go_wp2_with (go_at_call 94;refine Nd.out.mono ?_;rintro e W2 ⟨⟨cb,rfl,k1⟩,hb2⟩);go_ret2;exact GI.same rfl ((hb2.block xb lx1).trans BC.out) (Fr.of (BW.out.trans (hb2.mono BW.out.size))) (.unlock rfl RH.out) (fun h=>by simp at h) (adJ (Ay.out.later hb2) k1)
  ·as_aux_lemma=>
    by_cases hcd:s.held<0;case neg=>
     have Nd:=A3 (apV xb sb im lk a b c s hcd W1 BC.out Ay.out.m);clear hcd;go_wp2_with (go_at_call 94;refine Nd.out.mono ?_;rintro e W2 ⟨rfl,hb2⟩);go_ret2;exact .inl ⟨_,_,by decide,rfl,BW.out.trans (hb2.mono BW.out.size)⟩
    have⟨RH,Nd⟩:=AQ hcd (apN xb sb im lk a b c s hcd W1 BC.out Ay.out.m);clear hcd;go_wp2_with (go_at_call 94;refine Nd.out.mono ?_;rintro e W2 ⟨⟨cb,rfl,k1⟩,hx2,f2⟩);go_ret2;exact GI.same rfl hx2 ((Fr.of BW.out).trans f2) (.halt rfl RH.out) (fun h=>by simp at h) (asq (Ay.out.keep f2 (fun k hk e=>Ll.out P7)) k1)
  ·as_aux_lemma=>
    have hsj:=RV.out;obtain⟨y0,y1,y2,y3,y4,y5,y6,y7,y8,y9,y10,yf⟩:=D9 BC.out;have yf8:=yf 8;have⟨Iu,HST⟩:=AQ HP.old HP.st;rcases HP.fn with rfl|⟨fid,caps,rfl,hen,hnn,hcl⟩
    ·clear yf
     have hnil:∀w,(binOp .neq 92 .nilFunc .nilFunc).run Tryz.prog w=.ok (.bool false) w:=fun w=>by kernel_rfl
     go_wp2_with (go_at_call 91;refine (UN.out _ _ Wx).mono ?_;rintro e W2 ⟨⟨c0,c1,rfl,k0,k1⟩,hb2⟩)
     go_returns
     have Fc:=(hb2.block xb lx1).trans BC.out;have hW3:AL (0):=by unfold AL;omega
     exact GI.same rfl Fc ((Fr.of BW.out).trans (Fr.of hb2)) (.set (0) (.inr (.inr (.inr (.inr (.inr (.inr (.inl ⟨rfl,by unfold AL;omega⟩)))))))) (fun h=>by first|(simp at h;done)|(simp only at h;have:=HO.out;omega)) (Q1 (Ay.out.later hb2) AR GD hW3 Fc k0 Xt)
    ·have Kj:=hen im
     have HCL:=A3 (hcl im W1 BW.out);clear HP hcl hen;go_upto_region 30 with (with_reducible refine HCL.out.mono ?_;rintro e W2 ⟨v,hv,rfl,f2,Qq⟩;have z8:=(f2.cell 8 lx1 QT).trans y8;have zf8:W2.frozen? ⟨xb,8,none⟩=false:=(Oe (f2.block xb lx1 QT)).trans yf8;have lx2:xb<W2.heap.size:=F7 lx1 f2.size);obtain⟨W3,hW3⟩:=A8 (W2.setCell ⟨xb,8,none⟩ (.int .i32 v));have f3:Fr (· = xb) W2 W3:=hW3▸(Fr.refl (· = xb) _).set _ (.inl rfl);have Hg:=A3 (show W3.heap[xb]?=some (.cells (Bo ⟨26,a,b,c,im⟩ s.pc false (-1) v sb (s.pc+1)) 141 (0,0)) by rw [←hW3,Cl W2 xb 8 _ _ _ ((f2.block xb lx1 QT).trans BC.out)];rfl);obtain⟨q0,q1,q2,q3,q4,q5,q6,q7,q8,q9,q10,qf⟩:=D9 Hg.out;have lx3:xb<W3.heap.size:=Ak Hg.out;have HJ3:=A3 ((Ay.out.keep f2 hsj).keep f3 (fun k hk e=>Ll.out P7));have⟨HF3,HV3⟩:=AQ ((((Fr.of (S:=fun k=>k=xb∨Sp k) BW.out).trans (f2.mono fun k _ h=>.inr h)).trans (f3.mono fun k _ e=>.inl e))) hv;have IV:=A3 (HST.out _ _ _ Qq f3 (fun k hk e=>QT P7));rw [hW3];clear hW3 f2 f3 z8 zf8 lx2 y0 y1 y2 y3 y4 y5 y6 y7 y8 y9 y10 yf yf8 qf hnn Kj i0 i1 i2 i3 i4 Oc JD rgc rdd hv Qq;go_wp2_with (go_at_call 91;refine (aZ xb _ _).mono ?_;rintro e W4 ⟨⟨c0,c1,rfl,k0,k1⟩,hb4⟩);go_ret2;exact .inr ⟨_,_,_,_,_,_,_,_,rfl,(hb4.block xb lx3).trans Hg.out,HF3.out.trans (Fr.of hb4),.inr (HST.out (fun _=>False) _ _ IV.out (Fr.of hb4) (fun _ _ h=>h)),.set v (.inr (.inr (.inr (.inr (.inr (.inr (.inl ⟨rfl,HV3.out⟩))))))),fun h=>by simp at h,Q1 (HJ3.out.later hb4) AR GD HV3.out ((hb4.block xb lx3).trans Hg.out) k0 k1⟩
  ·as_aux_lemma=>
    obtain⟨opn,rfl⟩:∃n:Nat,op=(n:Int):=⟨op.toNat,by omega⟩;have ho:2≤opn∧opn≤13:=by omega
    have hT:=HTT.out;clear ho0;have HT:=A3 (show W1.cell? ⟨1,opn,none⟩=some (.int .u8 (Ru (opn:Int))) by rw [BW.out.cell (p:=⟨1,opn,none⟩) hT1];exact hT opn ho.1 ho.2);have tb:=HT.out;have n0:((opn:Int)==0)=false:=by simp;omega
    have m0:(opn==0)=false:=by simp;omega
    have n1:((opn:Int)==1)=false:=by simp;omega
    have m1:(opn==1)=false:=by simp;omega
    have n14:((opn:Int)==14)=false:=by simp;omega
    have m14:(opn==14)=false:=by simp;omega
    have n15:((opn:Int)==15)=false:=by simp;omega
    have m15:(opn==15)=false:=by simp;omega
    have n16:((opn:Int)==16)=false:=by simp;omega
    have m16:(opn==16)=false:=by simp;omega
    have n17:((opn:Int)==17)=false:=by simp;omega
    have m17:(opn==17)=false:=by simp;omega
    have n18:((opn:Int)==18)=false:=by simp;omega
    have m18:(opn==18)=false:=by simp;omega
    have n19:((opn:Int)==19)=false:=by simp;omega
    have m19:(opn==19)=false:=by simp;omega
    have n20:((opn:Int)==20)=false:=by simp;omega
    have m20:(opn==20)=false:=by simp;omega
    have n21:((opn:Int)==21)=false:=by simp;omega
    have m21:(opn==21)=false:=by simp;omega
    have n22:((opn:Int)==22)=false:=by simp;omega
    have m22:(opn==22)=false:=by simp;omega
    have n23:((opn:Int)==23)=false:=by simp;omega
    have m23:(opn==23)=false:=by simp;omega
    have n24:((opn:Int)==24)=false:=by simp;omega
    have m24:(opn==24)=false:=by simp;omega
    have n25:((opn:Int)==25)=false:=by simp;omega
    have m25:(opn==25)=false:=by simp;omega
    have n26:((opn:Int)==26)=false:=by simp;omega
    have m26:(opn==26)=false:=by simp;omega
    have n27:((opn:Int)==27)=false:=by simp;omega
    have m27:(opn==27)=false:=by simp;omega
    have n28:((opn:Int)==28)=false:=by simp;omega
    have m28:(opn==28)=false:=by simp;omega
    have n29:((opn:Int)==29)=false:=by simp;omega
    have m29:(opn==29)=false:=by simp;omega
    have t1:decide ((30:Int)≤(opn:Int))=false:=Ad A0;have t2:(opn:Int)<30:=by omega
    have HO:=A3 ho;have l1:1<W1.heap.size:=F7 hT1 BW.out.size;clear hT ho hT1;obtain⟨oo,hoo⟩:=A8 (Ru (opn:Int));rw [hoo] at tb;have HOO:=A3 hoo;obtain⟨rv,Jr⟩:=A8 (wv oo vb vc);obtain⟨er,her⟩:=A8 (we oo vc);have OX:=A3 (show ∀W,Calls Tryz.prog 95 #[.int .u8 oo,.int .i32 vb,.int .i32 vc] W fun e w'=>e=.returned (.tuple #[.int .i32 rv,.int .i64 er])∧W=w' from fun W=>by rw [←Jr,← her];exact fE oo vb vc W J4 wrc);have⟨HRV,HER⟩:=AQ Jr her;clear hoo Jr her;go_upto_region 38 with fail;refine C7 A4 A4 ?_;repeat (go_big_quiet_step (first|(go_at_call 95;exact Calls.Tu (OX.out _))))
    refine BD ?_;rintro _ ⟨y,rfl⟩;clear tb i0 i1 i2 i3 i4;have lxy:xb<y.w.heap.size:=F7 lx1 y.h.size;by_cases Qk:er=0;case neg=>
     have HEZ:=A3 Qk;clear Qk;go_wp2_with (go_at_call 91;refine (UN.out _ _ Wx).mono ?_;rintro e W2 ⟨⟨c0,c1,rfl,k0,k1⟩,hb2⟩);go_ret2;exact .inl ⟨_,_,HEZ.out,rfl,BW.out.trans (hb2.mono BW.out.size)⟩
    subst Qk;go_wp2_with (go_at_call 91;refine (UN.out _ _ Wx).mono ?_;rintro e W2 ⟨⟨c0,c1,rfl,k0,k1⟩,hb2⟩)
    go_returns
    have Fc:=(hb2.block xb lx1).trans BC.out;have hW3:AL (rv):=by rw [←HRV.out];exact arV _ J4 wrc
    exact GI.same rfl Fc ((Fr.of BW.out).trans (Fr.of hb2)) (.set (rv) (.inr (.inr (.inr (.inr (.inr (.inr (.inr ⟨by simp only;have:=HO.out;omega,by simp only;have:=HO.out;omega,by simp only;rw [HOO.out,HVC.out];exact HER.out,by simp only;rw [HOO.out,GY.out,HVC.out];exact HRV.out.symm⟩)))))))) (fun h=>by first|(simp at h;done)|(simp only at h;have:=HO.out;omega)) (Q1 (Ay.out.later hb2) AR GD hW3 Fc k0 Xt)
end Go.Proofs.YtlmgkipmfgijiaaGreatDoor
