/-
  What is proved here: parts bKd.
-/
import Derived.Test.YtlmgkipmfgijiaaGreatDoorVa
import Derived.Test.YtlmgkipmfgijiaaGreatDoorVh
import Derived.Handy
import Derived.Test.YtlmgkipmfgijiaaGreatDoorVc
import Derived.Deep.RegionWith
import Derived.Deep.RegionHeld3
import Derived.Deep.DeepCutAuto
namespace Go.Proofs.YtlmgkipmfgijiaaGreatDoor
set_option linter.unusedVariables false
set_option linter.unusedSimpArgs false
set_option maxRecDepth 100000
set_option maxHeartbeats 8000000
open Go.RowKit
section
theorem D9 {w:World} {xb sb:Nat} {I:Ins} {pc ad vl nx:Int} {tk:Bool} (h:w.heap[xb]?=some (.cells (Bo I pc tk ad vl sb nx) 141 (0,0))) :
  w.cell? ⟨xb,0,none⟩=some (.int .u8 I.op)∧w.cell? ⟨xb,1,none⟩=some (.int .i64 I.a)∧w.cell? ⟨xb,2,none⟩=some (.int .i64 I.b)∧w.cell? ⟨xb,3,none⟩=some (.int .i64 I.c)∧w.cell? ⟨xb,4,none⟩=some (.int .i64 I.AD)∧w.cell? ⟨xb,5,none⟩=some (.int .i64 pc)∧w.cell? ⟨xb,6,none⟩=some (.bool tk)∧w.cell? ⟨xb,7,none⟩=some (.int .i64 ad)∧w.cell? ⟨xb,8,none⟩=some (.int .i32 vl)∧w.cell? ⟨xb,9,none⟩=some (.pointer (some ⟨sb,0,none⟩))∧w.cell? ⟨xb,10,none⟩=some (.int .i64 nx)∧∀o,w.frozen? ⟨xb,o,none⟩=false:=by
 refine⟨?_,?_,?_,?_,?_,?_,?_,?_,?_,?_,?_,fun o=>?_⟩<;>simp [World.cell?,World.frozen?,h,Bo]
theorem apg (w:World):Calls Tryz.prog 90 #[] w fun e w'=>e=.returned (.tuple #[])∧w=w':=by
 go_enter Tryz.func90,Tryz.ntmps90
 go_wp2
 go_returns
 exact⟨rfl,rfl⟩
theorem apz (xb sb c0 c1:Nat) (I:Ins) (pc ad vl nx:Int) (tk:Bool) (a:Nat) (ha:I.a=(a:Int)) (ha2:a<16) (v:Int) (hv:AL v) (s:St) (w:World)
  (hx:w.heap[xb]?=some (.cells (Bo I pc tk ad vl sb nx) 141 (0,0))) (h0:w.cell? ⟨c0,0,none⟩=some (.pointer (some ⟨xb,0,none⟩))) (h1:w.cell? ⟨c1,0,none⟩=some (.int .i32 v)) (hM:Bx w sb s) :
  Calls Tryz.prog 110 #[.pointer (some ⟨c0,0,none⟩),.pointer (some ⟨c1,0,none⟩)] w fun e w'=>e=.returned (.tuple #[])∧Bx w' sb { s with r:=JC s.r I.a v }∧Fr (· = sb) w w':=by
 obtain⟨-,x1,-,-,-,-,-,-,-,x9,-,-⟩:=D9 hx;rw [ha] at x1 ⊢;have r1:=hM.A7 ha2;have f1:=hM.fz (1+a);have HM:=A3 hM;have l1:=hM.lt;clear hx hM ha;by_cases h:a=0
 ·subst h
  go_enter Tryz.func110,Tryz.ntmps110
  go_wp2
  go_returns
  refine⟨rfl,?_,Fr.refl _ _⟩;simpa [JC] using HM.out
 ·have d:((a:Int) != 0)=true:=by simp;omega
  have dd:(a != 0)=true:=by simp;omega
  have HH:=A3 h;have g1:decide ((a:Int)<0)=false:=by simp
  have g2:decide ((16:Int)≤(a:Int))=false:=by simp;omega
  have ga:(a:Int)<16:=by omega
  clear h;go_enter Tryz.func110,Tryz.ntmps110;go_upto_region 1 with fail;go_region
  all_goals
   go_wp2
   go_returns
   refine⟨rfl,?_,?_⟩
   ·have h:=(HM.out.asP ha2 hv).drew
    rw [show JC s.r (a:Int) v=s.r.set a v by unfold JC;rw [A6 (by have:=HH.out;omega)];simp];exact h
   ·exact ((Fr.refl (· = sb) _).set _ (.inl rfl)).drew
theorem as3 {w:World} {B n cap mb:Nat} {ml:List Int} (h:w.ownsRow B 21 1 (.slice (some ⟨mb,0,none⟩) n cap) n (F0 ml)) (k:Nat) (x:Int) :
  (w.setCell ⟨mb,k,none⟩ (.int .i32 x)).ownsRow B 21 1 (.slice (some ⟨mb,0,none⟩) n cap) n (F0 (ml.set k x)):=by
 have h1:=(h.stored k (.int .i32 x)).1;rw [show (F0 ml).set k (.int .i32 x)=F0 (ml.set k x) by simp [F0,Tv]] at h1;exact h1
theorem XW {w:World} {B n cap mb:Nat} {ml:List Int} (h:w.ownsRow B 21 1 (.slice (some ⟨mb,0,none⟩) n cap) n (F0 ml)) (k:Nat) (hk:k<n):w.cell? ⟨mb,k,none⟩=some (.int .i32 (ml.getD k 0)):=by
 have hl:ml.length=n:=by have:=h.1;simpa using this
 rw [h.cellAt k A0];simp [List.getD,Ab (show k<ml.length by omega)]
theorem wP (mb n cap ad sb c0 ib mc ac B:Nat) (I:Ins) (a:Nat) (ha:I.a=(a:Int)) (ha2:a<16) (hn:ad<n) (hn2:n≤1000000) (s:St) (ml:List Int) (w:World)
  (hi:w.cell? ⟨ib,1,none⟩=some (.int .i64 I.a)) (h0:w.cell? ⟨c0,0,none⟩=some (.pointer (some ⟨sb,0,none⟩))) (h1:w.cell? ⟨mc,0,none⟩=some (.slice (some ⟨mb,0,none⟩) n cap)) (h2:w.cell? ⟨ac,0,none⟩=some (.int .i64 (ad:Int))) (hM:Bx w sb s)
  (hr:w.ownsRow B 21 1 (.slice (some ⟨mb,0,none⟩) n cap) n (F0 ml)) :
  Calls Tryz.prog 111 #[.pointer (some ⟨c0,0,none⟩),.pointer (some ⟨ib,0,none⟩),.pointer (some ⟨mc,0,none⟩),.pointer (some ⟨ac,0,none⟩)] w fun e w'=>e=.returned (.tuple #[])∧w'.ownsRow B 21 1 (.slice (some ⟨mb,0,none⟩) n cap) n (F0 (ml.set ad (s.r.getD a 0)))∧Fr (· = mb) w w':=by
 rw [ha] at hi;have r1:=hM.A7 ha2;have l1:=hM.lt;have m1:=XW hr ad hn;have m2:w.frozen? ⟨mb,ad,none⟩=false:=hr.frozenAt ad;have l2:mb<w.heap.size:=(hr.lt mb rfl).2;have HR:=A3 hr;have g1:decide ((a:Int)<0)=false:=by simp
 have g2:decide ((16:Int)≤(a:Int))=false:=by simp;omega
 have g3:decide ((ad:Int)<0)=false:=by simp
 have g4:decide ((n:Int)≤(ad:Int))=false:=by simp;omega
 have ga:(a:Int)<16:=by omega
 have gb:(ad:Int)<(n:Int):=by omega
 clear hr hM;go_enter Tryz.func111,Tryz.ntmps111;go_region
 all_goals
  go_wp2
  go_returns
  refine⟨rfl,?_,?_⟩
  ·exact as3 HR.out ad _
  ·exact ((Fr.refl (· = mb) _).set _ (.inl rfl)).drew
theorem yw (sb ib c1:Nat) (im:Int) (s:St) (w:World) (hi:w.cell? ⟨ib,4,none⟩=some (.int .i64 im)) (h0:w.cell? ⟨c1,0,none⟩=some (.pointer (some ⟨sb,0,none⟩))) (hM:Bx w sb s) :
  Calls Tryz.prog 112 #[.pointer (some ⟨ib,0,none⟩),.pointer (some ⟨c1,0,none⟩)] w fun e w'=>e=.returned (.tuple #[])∧Bx w' sb { s with held:=im }∧Fr (· = sb) w w':=by
 have r1:=hM.held;have r2:=hM.fz 19;have l1:=hM.lt;have HM:=A3 hM;clear hM;go_enter Tryz.func112,Tryz.ntmps112
 go_wp2
 go_returns
 exact⟨rfl,HM.out.wA im,(Fr.refl (· = sb) _).set _ (.inl rfl)⟩
theorem zJ (sb c1:Nat) (s:St) (w:World) (h0:w.cell? ⟨c1,0,none⟩=some (.pointer (some ⟨sb,0,none⟩))) (hM:Bx w sb s) :
  Calls Tryz.prog 113 #[.pointer (some ⟨c1,0,none⟩)] w fun e w'=>e=.returned (.tuple #[])∧Bx w' sb { s with held:=-1 }∧Fr (· = sb) w w':=by
 have r1:=hM.held;have r2:=hM.fz 19;have l1:=hM.lt;have HM:=A3 hM;clear hM;go_enter Tryz.func113,Tryz.ntmps113
 go_wp2
 go_returns
 exact⟨rfl,HM.out.wA (-1),(Fr.refl (· = sb) _).set _ (.inl rfl)⟩
theorem asn (sb c1:Nat) (s:St) (w:World) (h0:w.cell? ⟨c1,0,none⟩=some (.pointer (some ⟨sb,0,none⟩))) (hM:Bx w sb s) :
  Calls Tryz.prog 114 #[.pointer (some ⟨c1,0,none⟩)] w fun e w'=>e=.returned (.tuple #[])∧Bx w' sb { s with hal:=true }∧Fr (· = sb) w w':=by
 have r1:=hM.hal;have r2:=hM.fz 18;have l1:=hM.lt;have HM:=A3 hM;clear hM;go_enter Tryz.func114,Tryz.ntmps114
 go_wp2
 go_returns
 exact⟨rfl,HM.out.aso true,(Fr.refl (· = sb) _).set _ (.inl rfl)⟩
theorem aZ (xb:Nat) (v:Int) (w:World) :
  Calls Tryz.prog 91 #[.pointer (some ⟨xb,0,none⟩),.int .i32 v] w fun e w'=>(∃c0 c1,e=.returned (.func (.func 110) #[] #[.pointer (some ⟨c0,0,none⟩),.pointer (some ⟨c1,0,none⟩)])∧w'.cell? ⟨c0,0,none⟩=some (.pointer (some ⟨xb,0,none⟩))∧w'.cell? ⟨c1,0,none⟩=some (.int .i32 v))∧Below w.heap.size w w':=by
 go_enter Tryz.func91,Tryz.ntmps91
 go_wp2
 go_ret;refine⟨⟨_,_,rfl,?_,?_⟩,((AV _ _).alloc (AH _) _).alloc AR _⟩
 ·simp [go_sem]
 ·simp [go_sem]
def A7 (s:St) (k:Int):Int:=s.r.getD k.toNat 0
def Ru (op:Int):Int:=if op=13 then 18 else op+4
def ao4 (I:Ins) (s:St) (dl sl:List Int) (v:Int):Prop:=
 (I.op=14∧v=I.AD)∨(I.op=15∧v=wrap32 (A7 s I.b+I.AD))∨(I.op=16∧v=wrap32 (A7 s I.b*2 ^ I.AD.toNat))∨(I.op=17∧v=bits .or .i32 (A7 s I.b) I.AD)∨
 (I.op=18∧0≤A7 s I.b+I.AD∧A7 s I.b+I.AD<dl.length∧v=dl.getD (A7 s I.b+I.AD).toNat 0)∨(I.op=20∧0≤A7 s I.b+I.AD∧A7 s I.b+I.AD<sl.length∧v=sl.getD (A7 s I.b+I.AD).toNat 0)∨
 (I.op=26∧AL v)∨(2≤I.op∧I.op≤13∧we (Ru I.op) (A7 s I.c)=0∧v=wv (Ru I.op) (A7 s I.b) (A7 s I.c))
def taken (I:Ins) (s:St):Bool:=decide (I.op=24) || (decide (A7 s I.a=0)==decide (I.op=22))
inductive EM (I:Ins) (lk:Int) (s:St) (dl sl:List Int):Int→St→List Int→List Int→Prop
 | plain (h:I.op=0∨I.op=27∨(I.op=25∧0≤A7 s I.a∧A7 s I.a<I.AD)):EM I lk s dl sl (s.pc+1) s dl sl
 | set (v:Int) (h:ao4 I s dl sl v):EM I lk s dl sl (s.pc+1) { s with r:=JC s.r I.a v } dl sl
 | st (h:I.op=19) (h0:0≤A7 s I.b+I.AD) (h1:A7 s I.b+I.AD<dl.length):EM I lk s dl sl (s.pc+1) s (dl.set (A7 s I.b+I.AD).toNat (A7 s I.a)) sl
 | PD (h:I.op=21) (h0:0≤A7 s I.b+I.AD) (h1:A7 s I.b+I.AD<sl.length):EM I lk s dl sl (s.pc+1) s dl (sl.set (A7 s I.b+I.AD).toNat (A7 s I.a))
 | br (h:Cg I.op=true):EM I lk s dl sl (if taken I s=true then s.pc+1+I.AD else s.pc+1) s dl sl
 | lock (h:I.op=28) (h0:s.held<0) (h1:I.AD<lk):EM I lk s dl sl (s.pc+1) { s with held:=I.AD } dl sl
 | unlock (h:I.op=29) (h0:s.held=I.AD):EM I lk s dl sl (s.pc+1) { s with held:=-1 } dl sl
 | halt (h:I.op=1) (h0:s.held<0):EM I lk s dl sl s.pc { s with hal:=true } dl sl
structure DG (w:World) (sb:Nat) (s:St) (dl:List Int) (sv:Value) (sl:List Int):Prop where
 m:Bx w sb s
 d:w.ownsRow 0 21 1 s.d dl.length (F0 dl)
 sh:w.ownsRow 0 21 1 sv sl.length (F0 sl)
 ne:∀q,s.d.ownBlock=some q→sv.ownBlock≠some q
 dw:∀x∈dl,AL x
 sw:∀x∈sl,AL x
 dn:dl.length≤1000000
 sn:sl.length≤1000000
def Jb (sb:Nat) (dv sv:Value) (k:Nat):Prop:=k=sb∨dv.ownBlock=some k∨sv.ownBlock=some k
theorem bO {w:World} {v:Value} {n k B:Nat} {xs:List Value} (h:w.ownsRow B 21 1 v n xs) (e:v.ownBlock=some k):∃cur,w.heap[k]?=some (.cells cur 21 (0,0)):=by
 rcases h.2 with⟨rfl,_⟩|⟨g,cap,cur,rfl,_,hk,_⟩
 ·simp [Value.ownBlock] at e
 ·simp only [Value.ownBlock,MG] at e
  subst e;exact⟨cur,hk⟩
section
variable {w:World} {sb:Nat} {s:St} {dl:List Int} {sv:Value} {sl:List Int}
theorem DG.dne (h:DG w sb s dl sv sl):s.d.ownBlock≠some sb:=fun e=>by
 obtain⟨cur,hc⟩:=bO h.d e;have:=hc.symm.trans h.m.blk;simp at this
theorem DG.sne (h:DG w sb s dl sv sl):sv.ownBlock≠some sb:=fun e=>by
 obtain⟨cur,hc⟩:=bO h.sh e;have:=hc.symm.trans h.m.blk;simp at this
theorem DG.lt (h:DG w sb s dl sv sl) {k:Nat} (hk:Jb sb s.d sv k):k<w.heap.size:=by
 rcases hk with rfl|e|e
 ·exact h.m.lt
 ·obtain⟨cur,hc⟩:=bO h.d e;exact Ak hc
 ·obtain⟨cur,hc⟩:=bO h.sh e;exact Ak hc
theorem DG.keep {S:Nat→Prop} {w':World} (h:DG w sb s dl sv sl) (f:Fr S w w') (hn:∀k,Jb sb s.d sv k→¬S k):DG w' sb s dl sv sl:=
 ⟨h.m.keep (f.block sb h.m.lt (hn sb (.inl rfl))),f.own h.d (fun q hq=>hn q (.inr (.inl hq))),f.own h.sh (fun q hq=>hn q (.inr (.inr hq))),h.ne,h.dw,h.sw,h.dn,h.sn⟩
theorem DG.later {w':World} (h:DG w sb s dl sv sl) (b:Below w.heap.size w w'):DG w' sb s dl sv sl:=h.keep (S:=fun _=>False) (Fr.of b) (fun _ _ h=>h)
theorem DG.state {w':World} {s':St} (h:DG w sb s dl sv sl) (hm:Bx w' sb s') (f:Fr (· = sb) w w') (hd:s'.d=s.d):DG w' sb s' dl sv sl:=
 ⟨hm,by rw [hd];exact f.own h.d (fun q hq e=>h.dne (by rw [←e];exact hq)),f.own h.sh (fun q hq e=>h.sne (by rw [←e];exact hq)),by rw [hd];exact h.ne,h.dw,h.sw,h.dn,h.sn⟩
end
def Qm (fv:Value) (W:World) (R:World→Prop):Prop:=
 ∃(fid:FuncId) (caps:Array Value),fv=.func (.func fid) #[] caps∧(∀w,(callFunc fid caps).run Tryz.prog w=.ok (.enter fid caps) w)∧Calls Tryz.prog fid caps W fun e w'=>e=.returned (.tuple #[])∧R w'
structure Port (w:World) (pv:Value) (Sp:Nat→Prop) (Rp:World→Prop):Prop where
 old:∀k,Sp k→k<w.heap.size
 st:∀(S:Nat→Prop) (W W':World),Rp W→Fr S W W'→(∀k,Sp k→¬S k)→Rp W'
 fn:pv=.nilFunc∨∃(fid:FuncId) (caps:Array Value),pv=.func (.func fid) #[] caps∧(∀(x:Int) w,(callFunc fid (#[.int .i64 x]++caps)).run Tryz.prog w=.ok (.enter fid (#[.int .i64 x]++caps)) w)∧
  (∀w,(binOp .neq 92 (.func (.func fid) #[] caps) .nilFunc).run Tryz.prog w=.ok (.bool true) w)∧
  ∀(x:Int) (W:World),Below w.heap.size w W→Calls Tryz.prog fid (#[.int .i64 x]++caps) W fun e w'=>∃v,AL v∧e=.returned (.int .i32 v)∧Fr Sp W w'∧Rp w'
def GI (w:World) (xb sb:Nat) (I:Ins) (lk:Int) (s:St) (dl:List Int) (sv:Value) (sl:List Int) (Sp:Nat→Prop) (Rp:World→Prop) (e:Ending) (w':World):Prop:=
 (∃fv er,er≠0∧e=.returned (.tuple #[fv,.int .i64 er])∧Below w.heap.size w w')∨
 (∃fv nx tk ad vl s' DN sl',e=.returned (.tuple #[fv,.int .i64 0])∧w'.heap[xb]?=some (.cells (Bo I s.pc tk ad vl sb nx) 141 (0,0))∧Fr (fun k=>k=xb∨Sp k) w w'∧(Fr (· = xb) w w'∨Rp w')∧EM I lk s dl sl nx s' DN sl'∧(I.op=27→vl=A7 s I.a)∧
  Qm fv w' fun w2=>DG w2 sb s' DN sv sl'∧Fr (Jb sb s.d sv) w' w2)
theorem GI.same {w w':World} {xb sb:Nat} {I:Ins} {lk:Int} {s:St} {dl:List Int} {sv:Value} {sl:List Int} {Sp:Nat→Prop} {Rp:World→Prop} {fv:Value} {nx ad vl:Int} {tk:Bool} {s':St} {DN sl':List Int} {e:Ending}
  (he:e=.returned (.tuple #[fv,.int .i64 0])) (hx:w'.heap[xb]?=some (.cells (Bo I s.pc tk ad vl sb nx) 141 (0,0))) (hf:Fr (· = xb) w w') (hs:EM I lk s dl sl nx s' DN sl') (hv:I.op=27→vl=A7 s I.a)
  (hc:Qm fv w' fun w2=>DG w2 sb s' DN sv sl'∧Fr (Jb sb s.d sv) w' w2):GI w xb sb I lk s dl sv sl Sp Rp e w':=.inr ⟨fv,nx,tk,ad,vl,s',DN,sl',he,hx,hf.mono fun k _ e=>.inl e,.inl hf,hs,hv,hc⟩
theorem Q1 {w:World} {xb sb c0 c1:Nat} {I:Ins} {pc ad vl nx:Int} {tk:Bool} {s:St} {dl:List Int} {sv:Value} {sl:List Int} {v:Int} (hJ:DG w sb s dl sv sl) (h0:0≤I.a) (h16:I.a<16) (hv:AL v)
  (hx:w.heap[xb]?=some (.cells (Bo I pc tk ad vl sb nx) 141 (0,0))) (k0:w.cell? ⟨c0,0,none⟩=some (.pointer (some ⟨xb,0,none⟩))) (k1:w.cell? ⟨c1,0,none⟩=some (.int .i32 v)) :
  Qm (.func (.func 110) #[] #[.pointer (some ⟨c0,0,none⟩),.pointer (some ⟨c1,0,none⟩)]) w fun w2=>DG w2 sb { s with r:=JC s.r I.a v } dl sv sl∧Fr (Jb sb s.d sv) w w2:=
 ⟨_,_,rfl,fun w=>by kernel_rfl,(apz xb sb c0 c1 I pc ad vl nx tk I.a.toNat A0 A0 v hv s w hx k0 k1 hJ.m).mono fun e w' ⟨h1,h2,h3⟩=>⟨h1,hJ.state h2 h3 rfl,h3.mono fun k _ e=>.inl e⟩⟩
theorem Wa {w:World} {sb:Nat} {s:St} {dl:List Int} {sv:Value} {sl:List Int} (hJ:DG w sb s dl sv sl) :
  Qm (.func (.func 90) #[] #[]) w fun w2=>DG w2 sb s dl sv sl∧Fr (Jb sb s.d sv) w w2:=
 ⟨_,_,rfl,fun w=>by kernel_rfl,(apg w).mono fun e w' ⟨h1,h2⟩=>⟨h1,by subst h2;exact hJ,by subst h2;exact Fr.refl _ _⟩⟩
theorem M9 (s:St) (k:Nat):A7 s (k:Int)=s.r.getD k 0:=by simp [A7]
theorem Gg {w:World} {ib:Nat} {o a b c i:Int} (h:w.heap[ib]?=some (.cells #[.int .u8 o,.int .i64 a,.int .i64 b,.int .i64 c,.int .i64 i] 67 (0,0))) :
  w.cell? ⟨ib,0,none⟩=some (.int .u8 o)∧w.cell? ⟨ib,1,none⟩=some (.int .i64 a)∧w.cell? ⟨ib,2,none⟩=some (.int .i64 b)∧w.cell? ⟨ib,3,none⟩=some (.int .i64 c)∧w.cell? ⟨ib,4,none⟩=some (.int .i64 i)∧ib<w.heap.size:=by
 refine⟨?_,?_,?_,?_,?_,Ak h⟩<;>simp [World.cell?,h]
theorem one_cell' {w:World} {b:Nat} {v:Value} {t:TypeId} (h:w.heap[b]?=some (.cells #[v] t (0,0))):w.cell? ⟨b,0,none⟩=some v∧b<w.heap.size:=⟨by simp [World.cell?,h],Ak h⟩
theorem Be (W:World) (o1 o2:Obj):((W.drew.alloc o1).alloc o2).heap[W.heap.size]?=some o1∧((W.drew.alloc o1).alloc o2).heap[W.heap.size+1]?=some o2∧Below W.heap.size W ((W.drew.alloc o1).alloc o2):=by
 refine⟨?_,?_,((Dl (AV _ _)).alloc AR _).alloc AR _⟩
 ·rw [Bv _ _ AR]
  exact AY _ _
 ·exact Et _ _ AR
theorem aX (xb sb:Nat) (op im:Int) (a b c:Nat) (hb:b<16) (him : -131072≤im∧im≤131071) (s:St) (mv:Value) (A:Option Addr) (n cap:Nat) (Gw:mv=.slice A n cap) (hn:n≤1000000) (Ff:A7 s (b:Int)+im<0∨(n:Int)≤A7 s (b:Int)+im) (w:World)
  (hx:w.heap[xb]?=some (.cells (Bo ⟨op,a,b,c,im⟩ s.pc false (-1) 0 sb (s.pc+1)) 141 (0,0))) (hM:Bx w sb s) :
  Calls Tryz.prog 92 #[.pointer (some ⟨xb,0,none⟩),mv] w fun e w'=>e=.returned (.tuple #[.nilFunc,.int .i64 10])∧Below w.heap.size w w':=by
 subst Gw;obtain⟨W0,hW0⟩:=A8 (w.alloc (.cells #[.slice A n cap] 79));have b0:Below w.heap.size w W0:=hW0▸(AV _ _).alloc (AH _) _;have k0:W0.heap[w.heap.size]?=some (.cells #[.slice A n cap] 79 (0,0)):=by rw [←hW0];exact AY _ _
 have lx0:=Ak hx;have⟨CE,Dj⟩:=AQ ((b0.block xb lx0).trans hx) (hM.keep (b0.block sb hM.lt));obtain⟨x0,x1,x2,x3,x4,x5,-,-,-,x9,-,xf⟩:=D9 CE.out;obtain⟨m0,mlt⟩:=one_cell' k0;have lx:=Ak CE.out;have⟨B0,K0⟩:=AQ b0 k0;have hs0:=b0.size;have LX:=A3 lx0;obtain⟨mc,hmc⟩:=A8 w.heap.size;have HMC:=A3 hmc;clear hx hM xf b0 k0 lx0;rw [hmc] at K0 m0 mlt;simp only at x0 x1 x2 x3 x4;go_enter ZU,Zk;go_upto_region 1 with fail;clear hW0;try rw [hmc]
 clear hmc;go_cut [6,7] from 9 to 17 (fun a6 a7 wx=>∃ib cb,a6=.pointer (some ⟨ib,0,none⟩)∧a7=.pointer (some ⟨cb,0,none⟩)∧wx.heap[ib]?=some (.cells #[.int .u8 op,.int .i64 a,.int .i64 b,.int .i64 c,.int .i64 im] 67 (0,0))∧wx.heap[cb]?=some (.cells #[.pointer (some ⟨sb,0,none⟩)] 91 (0,0))∧Below W0.heap.size W0 wx)
 case first=>
  go_region
  all_goals
   go_wp2_with fail;go_meet;case rel=>first
    | exact⟨_,_,rfl,rfl,(Be W0 _ _).1,(Be W0 _ _).2.1,(Be W0 _ _).2.2⟩
    | exact⟨_,_,rfl,rfl,(Be W0 _ _).2.1,(Be W0 _ _).1,(Be W0 _ _).2.2⟩
 case rest=>
  obtain⟨ib,cb,rfl,rfl,Bp,Cy,Am⟩:=hcut;obtain⟨W1,hW1⟩:∃W1:World,W1=wc:=⟨_,rfl⟩;subst hW1;obtain⟨i0,i1,i2,i3,i4,li⟩:=Gg Bp;obtain⟨cb0,J0⟩:=one_cell' Cy;have⟨Bz,B1,BC,K1,Kl,Io⟩:=Lt (Dj.out.keep (Am.block sb Dj.out.lt)) (B0.out.trans (Am.mono hs0)) ((Am.block xb lx).trans CE.out) ((Am.block mc mlt).trans K0.out) Bp Cy;have lsb:=Bz.out.lt;have JD:=Bz.out.A7 hb;have gb:(b:Int)<16:=by omega
  have gb2:decide ((16:Int)≤(b:Int))=false:=Ad A0;have J4:=Bz.out.Oi b;obtain⟨vb,GL⟩:=A8 (s.r.getD b 0);rw [GL] at JD J4;have GY:=A3 (show A7 s (b:Int)=vb by rw [M9];exact GL);unfold AL at J4;have wad:IntKind.i64.wrap (vb+im)=vb+im:=Dn _ A0;have wvb:IntKind.i64.wrap vb=vb:=Dn _ A0;clear Bp Cy GL x0 x1 x2 x3 x4 x5 x9 m0 K0;go_upto_region 2 with fail;go_cut [8] from 18 to 28 (fun a8 wx=>∃ab,a8=.pointer (some ⟨ab,0,none⟩)∧wx.heap[ab]?=some (.cells #[.int .i64 (vb+im)] 3 (0,0))∧Below W1.heap.size W1 wx∧W1.heap.size≤ab)
  case first=>
   go_region
   all_goals
    go_wp2_with fail;go_meet;case rel=>exact⟨_,rfl,by first|exact AY _ _|(rw [World.drew];exact AY _ _),(Dl (AV _ _)).alloc AR _,by simp⟩
  case rest=>
   obtain⟨ab,rfl,II,Dd,hab⟩:=hcut;obtain⟨W2,hW2⟩:∃W2:World,W2=wc:=⟨_,rfl⟩;subst hW2;have hs1:=B1.out.size;have⟨Gy,Mn⟩:=AQ ((Dd.block ib li).trans Kl.out) ((Dd.block cb J0).trans Io.out);have QD:mc<W1.heap.size:=Ak K1.out;have lx1:xb<W1.heap.size:=Ak BC.out;have⟨Gz,EK,Jh,B2,H9⟩:=FP ((Dd.block mc QD).trans K1.out) ((Dd.block xb lx1).trans BC.out) (Bz.out.keep (Dd.block sb lsb)) (B1.out.trans (Dd.mono hs1)) II;obtain⟨c0,lab⟩:=one_cell' II;obtain⟨m0,Ss⟩:=one_cell' Gz.out;obtain⟨j0,j1,j2,j3,j4,SX⟩:=Gg Gy.out;obtain⟨x0,x1,x2,x3,x4,x5,x6,x7,x8,x9,x10,xf⟩:=D9 EK.out;have xf7:=xf 7;have lx2:=Ak EK.out;have lxw:=LX.out;clear II Dd i0 i1 i2 i3 i4 cb0 JD xf Am;simp only at x0 x1 x2 x3 x4;rw [GY.out] at Ff;by_cases h1:vb+im<0
   ·have d:=Ac h1
    clear Ff h1;go_wp2_with fail;go_ret2;exact⟨rfl,B2.out⟩
   ·have d:=Ad h1
    have d2:decide ((n:Int)≤vb+im)=true:=Ac A0;clear Ff h1;go_wp2_with fail;go_ret2;exact⟨rfl,B2.out⟩
theorem aqd (xb sb:Nat) (im:Int) (a b c:Nat) (hb:b<16) (him : -131072≤im∧im≤131071) (s:St) (mv:Value) (A:Option Addr) (n cap:Nat) (Gw:mv=.slice A n cap) (hn:n≤1000000) (ml:List Int) (h0:0≤A7 s (b:Int)+im) (h1:A7 s (b:Int)+im<(n:Int)) (w:World)
  (hx:w.heap[xb]?=some (.cells (Bo ⟨18,a,b,c,im⟩ s.pc false (-1) 0 sb (s.pc+1)) 141 (0,0))) (hM:Bx w sb s) (hr:w.ownsRow 0 21 1 mv n (F0 ml)) :
  Calls Tryz.prog 92 #[.pointer (some ⟨xb,0,none⟩),mv] w fun e w'=>(∃c0 c1,e=.returned (.tuple #[.func (.func 110) #[] #[.pointer (some ⟨c0,0,none⟩),.pointer (some ⟨c1,0,none⟩)],.int .i64 0])∧w'.cell? ⟨c0,0,none⟩=some (.pointer (some ⟨xb,0,none⟩))∧w'.cell? ⟨c1,0,none⟩=some (.int .i32 (ml.getD (A7 s (b:Int)+im).toNat 0)))∧w'.heap[xb]?=some (.cells (Bo ⟨18,a,b,c,im⟩ s.pc false (A7 s (b:Int)+im) 0 sb (s.pc+1)) 141 (0,0))∧Fr (· = xb) w w':=by
 subst Gw;have hx':=A3 hx;obtain⟨W0,hW0⟩:=A8 (w.alloc (.cells #[.slice A n cap] 79));have b0:Below w.heap.size w W0:=hW0▸(AV _ _).alloc (AH _) _;have k0:W0.heap[w.heap.size]?=some (.cells #[.slice A n cap] 79 (0,0)):=by rw [←hW0];exact AY _ _
 have lx0:=Ak hx;have⟨CE,Dj⟩:=AQ ((b0.block xb lx0).trans hx) (hM.keep (b0.block sb hM.lt));obtain⟨x0,x1,x2,x3,x4,x5,-,-,-,x9,-,xf⟩:=D9 CE.out;obtain⟨m0,mlt⟩:=one_cell' k0;have lx:=Ak CE.out;have⟨B0,K0⟩:=AQ b0 k0;have hs0:=b0.size;have LX:=A3 lx0;obtain⟨mc,hmc⟩:=A8 w.heap.size;have HMC:=A3 hmc;clear hx hM xf b0 k0 lx0;rw [hmc] at K0 m0 mlt;simp only at x0 x1 x2 x3 x4;go_enter ZU,Zk;go_upto_region 1 with fail;clear hW0;try rw [hmc]
 clear hmc;go_cut [6,7] from 9 to 17 (fun a6 a7 wx=>∃ib cb,a6=.pointer (some ⟨ib,0,none⟩)∧a7=.pointer (some ⟨cb,0,none⟩)∧wx.heap[ib]?=some (.cells #[.int .u8 18,.int .i64 a,.int .i64 b,.int .i64 c,.int .i64 im] 67 (0,0))∧wx.heap[cb]?=some (.cells #[.pointer (some ⟨sb,0,none⟩)] 91 (0,0))∧Below W0.heap.size W0 wx)
 case first=>
  go_region
  all_goals
   go_wp2_with fail;go_meet;case rel=>first
    | exact⟨_,_,rfl,rfl,(Be W0 _ _).1,(Be W0 _ _).2.1,(Be W0 _ _).2.2⟩
    | exact⟨_,_,rfl,rfl,(Be W0 _ _).2.1,(Be W0 _ _).1,(Be W0 _ _).2.2⟩
 case rest=>
  obtain⟨ib,cb,rfl,rfl,Bp,Cy,Am⟩:=hcut;obtain⟨W1,hW1⟩:∃W1:World,W1=wc:=⟨_,rfl⟩;subst hW1;obtain⟨i0,i1,i2,i3,i4,li⟩:=Gg Bp;obtain⟨cb0,J0⟩:=one_cell' Cy;have⟨Bz,B1,BC,K1,Kl,Io⟩:=Lt (Dj.out.keep (Am.block sb Dj.out.lt)) (B0.out.trans (Am.mono hs0)) ((Am.block xb lx).trans CE.out) ((Am.block mc mlt).trans K0.out) Bp Cy;have lsb:=Bz.out.lt;have JD:=Bz.out.A7 hb;have gb:(b:Int)<16:=by omega
  have gb2:decide ((16:Int)≤(b:Int))=false:=Ad A0;have J4:=Bz.out.Oi b;obtain⟨vb,GL⟩:=A8 (s.r.getD b 0);rw [GL] at JD J4;have GY:=A3 (show A7 s (b:Int)=vb by rw [M9];exact GL);unfold AL at J4;have wad:IntKind.i64.wrap (vb+im)=vb+im:=Dn _ A0;have wvb:IntKind.i64.wrap vb=vb:=Dn _ A0;clear Bp Cy GL x0 x1 x2 x3 x4 x5 x9 m0 K0;go_upto_region 2 with fail;go_cut [8] from 18 to 28 (fun a8 wx=>∃ab,a8=.pointer (some ⟨ab,0,none⟩)∧wx.heap[ab]?=some (.cells #[.int .i64 (vb+im)] 3 (0,0))∧Below W1.heap.size W1 wx∧W1.heap.size≤ab)
  case first=>
   go_region
   all_goals
    go_wp2_with fail;go_meet;case rel=>exact⟨_,rfl,by first|exact AY _ _|(rw [World.drew];exact AY _ _),(Dl (AV _ _)).alloc AR _,by simp⟩
  case rest=>
   obtain⟨ab,rfl,II,Dd,hab⟩:=hcut;obtain⟨W2,hW2⟩:∃W2:World,W2=wc:=⟨_,rfl⟩;subst hW2;have hs1:=B1.out.size;have⟨Gy,Mn⟩:=AQ ((Dd.block ib li).trans Kl.out) ((Dd.block cb J0).trans Io.out);have QD:mc<W1.heap.size:=Ak K1.out;have lx1:xb<W1.heap.size:=Ak BC.out;have⟨Gz,EK,Jh,B2,H9⟩:=FP ((Dd.block mc QD).trans K1.out) ((Dd.block xb lx1).trans BC.out) (Bz.out.keep (Dd.block sb lsb)) (B1.out.trans (Dd.mono hs1)) II;obtain⟨c0,lab⟩:=one_cell' II;obtain⟨m0,Ss⟩:=one_cell' Gz.out;obtain⟨j0,j1,j2,j3,j4,SX⟩:=Gg Gy.out;obtain⟨x0,x1,x2,x3,x4,x5,x6,x7,x8,x9,x10,xf⟩:=D9 EK.out;have xf7:=xf 7;have lx2:=Ak EK.out;have lxw:=LX.out;clear II Dd i0 i1 i2 i3 i4 cb0 JD xf Am;simp only at x0 x1 x2 x3 x4;obtain⟨mb,hA⟩:∃mb,A=some ⟨mb,0,none⟩:=by
    rcases hr.2 with⟨h,h'⟩|⟨g,cap',cur,h,_⟩
    ·omega
    ·cases h;exact⟨g,rfl⟩
   subst hA;rw [GY.out] at h0 h1;obtain⟨ad,had⟩:∃ad:Nat,vb+im=(ad:Int):=⟨(vb+im).toNat,by omega⟩;have ML:ad<n:=by omega
   rw [had] at c0 H9;have d1:decide ((ad:Int)<0)=false:=by simp
   have d2:decide ((n:Int)≤(ad:Int))=false:=by simp;omega
   have d3:decide (n≤ad)=false:=by simp;omega
   have EW:=A3 (CS hr B2.out);have Qo:=XW EW.out ad ML;have Yg:=(EW.out.lt mb rfl).2;have kH:(ad:Int)<(n:Int):=by omega
   have HAD:=A3 had;have Sz:=A3 (show mb≠xb from fun e=>by have h1:=hr.2;rcases h1 with⟨h,_⟩|⟨g,cap',cur,h,_,hk,_⟩;cases h;cases h;rw [e,hx'.out] at hk;simp at hk);clear h0 h1 hr had;go_upto_region 6 with fail;obtain⟨W3,hW3⟩:=A8 (W2.setCell ⟨xb,7,none⟩ (.int .i64 (ad:Int)));have f3:Fr (· = xb) W2 W3:=hW3▸(Fr.refl (· = xb) _).set _ (.inl rfl);have Hg:=A3 (show W3.heap[xb]?=some (.cells (Bo ⟨18,a,b,c,im⟩ s.pc false (ad:Int) 0 sb (s.pc+1)) 141 (0,0)) by rw [←hW3,Cl W2 xb 7 _ _ _ EK.out];rfl);have Nt:=(f3.block ib SX (fun e=>by rw [e,EK.out] at Gy;have:=Gy.out;simp [Bo] at this)).trans Gy.out;obtain⟨y0,-,-,-,-,fU⟩:=Gg Nt;have km3:=(f3.block mc Ss (fun e=>by rw [e,EK.out] at Gz;have:=Gz.out;simp [Bo] at this)).trans Gz.out;have ka3:=(f3.block ab lab (fun e=>by rw [e,EK.out] at H9;have:=H9.out;simp [Bo] at this)).trans H9.out;obtain⟨y1,asC⟩:=one_cell' km3;obtain⟨y2,yM⟩:=one_cell' ka3;have y3:W3.cell? ⟨mb,ad,none⟩=some (.int .i32 (ml.getD ad 0)):=(f3.cell ad Yg Sz.out).trans Qo;have hs3:=f3.size;have aqk:mb<W3.heap.size:=by omega
   have F3:=A3 f3;rw [hW3];clear hW3 f3 Nt km3 ka3 c0 m0 j0 j1 j2 j3 j4 x0 x1 x2 x3 x4 x5 x6 x7 x8 x9 x10 xf7 Qo;go_wp2_with (go_at_call 91;refine (aZ xb _ _).mono ?_;rintro e W4 ⟨⟨c0,c1,rfl,k0,k1⟩,hb4⟩);go_ret2;rw [GY.out,HAD.out];refine⟨⟨c0,c1,rfl,k0,by rw [k1];simp⟩,(hb4.block xb A0).trans Hg.out,?_⟩;exact (Fr.of B2.out).trans (F3.out.trans (Fr.of hb4))
theorem arO (xb sb:Nat) (im:Int) (a b c:Nat) (hb:b<16) (him : -131072≤im∧im≤131071) (s:St) (mv:Value) (A:Option Addr) (n cap:Nat) (Gw:mv=.slice A n cap) (hn:n≤1000000) (ml:List Int) (h0:0≤A7 s (b:Int)+im) (h1:A7 s (b:Int)+im<(n:Int)) (w:World)
  (hx:w.heap[xb]?=some (.cells (Bo ⟨20,a,b,c,im⟩ s.pc false (-1) 0 sb (s.pc+1)) 141 (0,0))) (hM:Bx w sb s) (hr:w.ownsRow 0 21 1 mv n (F0 ml)) :
  Calls Tryz.prog 92 #[.pointer (some ⟨xb,0,none⟩),mv] w fun e w'=>(∃c0 c1,e=.returned (.tuple #[.func (.func 110) #[] #[.pointer (some ⟨c0,0,none⟩),.pointer (some ⟨c1,0,none⟩)],.int .i64 0])∧w'.cell? ⟨c0,0,none⟩=some (.pointer (some ⟨xb,0,none⟩))∧w'.cell? ⟨c1,0,none⟩=some (.int .i32 (ml.getD (A7 s (b:Int)+im).toNat 0)))∧w'.heap[xb]?=some (.cells (Bo ⟨20,a,b,c,im⟩ s.pc false (A7 s (b:Int)+im) 0 sb (s.pc+1)) 141 (0,0))∧Fr (· = xb) w w':=by
 subst Gw;have hx':=A3 hx;obtain⟨W0,hW0⟩:=A8 (w.alloc (.cells #[.slice A n cap] 79));have b0:Below w.heap.size w W0:=hW0▸(AV _ _).alloc (AH _) _;have k0:W0.heap[w.heap.size]?=some (.cells #[.slice A n cap] 79 (0,0)):=by rw [←hW0];exact AY _ _
 have lx0:=Ak hx;have⟨CE,Dj⟩:=AQ ((b0.block xb lx0).trans hx) (hM.keep (b0.block sb hM.lt));obtain⟨x0,x1,x2,x3,x4,x5,-,-,-,x9,-,xf⟩:=D9 CE.out;obtain⟨m0,mlt⟩:=one_cell' k0;have lx:=Ak CE.out;have⟨B0,K0⟩:=AQ b0 k0;have hs0:=b0.size;have LX:=A3 lx0;obtain⟨mc,hmc⟩:=A8 w.heap.size;have HMC:=A3 hmc;clear hx hM xf b0 k0 lx0;rw [hmc] at K0 m0 mlt;simp only at x0 x1 x2 x3 x4;go_enter ZU,Zk;go_upto_region 1 with fail;clear hW0;try rw [hmc]
 clear hmc;go_cut [6,7] from 9 to 17 (fun a6 a7 wx=>∃ib cb,a6=.pointer (some ⟨ib,0,none⟩)∧a7=.pointer (some ⟨cb,0,none⟩)∧wx.heap[ib]?=some (.cells #[.int .u8 20,.int .i64 a,.int .i64 b,.int .i64 c,.int .i64 im] 67 (0,0))∧wx.heap[cb]?=some (.cells #[.pointer (some ⟨sb,0,none⟩)] 91 (0,0))∧Below W0.heap.size W0 wx)
 case first=>
  go_region
  all_goals
   go_wp2_with fail;go_meet;case rel=>first
    | exact⟨_,_,rfl,rfl,(Be W0 _ _).1,(Be W0 _ _).2.1,(Be W0 _ _).2.2⟩
    | exact⟨_,_,rfl,rfl,(Be W0 _ _).2.1,(Be W0 _ _).1,(Be W0 _ _).2.2⟩
 case rest=>
  obtain⟨ib,cb,rfl,rfl,Bp,Cy,Am⟩:=hcut;obtain⟨W1,hW1⟩:∃W1:World,W1=wc:=⟨_,rfl⟩;subst hW1;obtain⟨i0,i1,i2,i3,i4,li⟩:=Gg Bp;obtain⟨cb0,J0⟩:=one_cell' Cy;have⟨Bz,B1,BC,K1,Kl,Io⟩:=Lt (Dj.out.keep (Am.block sb Dj.out.lt)) (B0.out.trans (Am.mono hs0)) ((Am.block xb lx).trans CE.out) ((Am.block mc mlt).trans K0.out) Bp Cy;have lsb:=Bz.out.lt;have JD:=Bz.out.A7 hb;have gb:(b:Int)<16:=by omega
  have gb2:decide ((16:Int)≤(b:Int))=false:=Ad A0;have J4:=Bz.out.Oi b;obtain⟨vb,GL⟩:=A8 (s.r.getD b 0);rw [GL] at JD J4;have GY:=A3 (show A7 s (b:Int)=vb by rw [M9];exact GL);unfold AL at J4;have wad:IntKind.i64.wrap (vb+im)=vb+im:=Dn _ A0;have wvb:IntKind.i64.wrap vb=vb:=Dn _ A0;clear Bp Cy GL x0 x1 x2 x3 x4 x5 x9 m0 K0;go_upto_region 2 with fail;go_cut [8] from 18 to 28 (fun a8 wx=>∃ab,a8=.pointer (some ⟨ab,0,none⟩)∧wx.heap[ab]?=some (.cells #[.int .i64 (vb+im)] 3 (0,0))∧Below W1.heap.size W1 wx∧W1.heap.size≤ab)
  case first=>
   go_region
   all_goals
    go_wp2_with fail;go_meet;case rel=>exact⟨_,rfl,by first|exact AY _ _|(rw [World.drew];exact AY _ _),(Dl (AV _ _)).alloc AR _,by simp⟩
  case rest=>
   obtain⟨ab,rfl,II,Dd,hab⟩:=hcut;obtain⟨W2,hW2⟩:∃W2:World,W2=wc:=⟨_,rfl⟩;subst hW2;have hs1:=B1.out.size;have⟨Gy,Mn⟩:=AQ ((Dd.block ib li).trans Kl.out) ((Dd.block cb J0).trans Io.out);have QD:mc<W1.heap.size:=Ak K1.out;have lx1:xb<W1.heap.size:=Ak BC.out;have⟨Gz,EK,Jh,B2,H9⟩:=FP ((Dd.block mc QD).trans K1.out) ((Dd.block xb lx1).trans BC.out) (Bz.out.keep (Dd.block sb lsb)) (B1.out.trans (Dd.mono hs1)) II;obtain⟨c0,lab⟩:=one_cell' II;obtain⟨m0,Ss⟩:=one_cell' Gz.out;obtain⟨j0,j1,j2,j3,j4,SX⟩:=Gg Gy.out;obtain⟨x0,x1,x2,x3,x4,x5,x6,x7,x8,x9,x10,xf⟩:=D9 EK.out;have xf7:=xf 7;have lx2:=Ak EK.out;have lxw:=LX.out;clear II Dd i0 i1 i2 i3 i4 cb0 JD xf Am;simp only at x0 x1 x2 x3 x4;obtain⟨mb,hA⟩:∃mb,A=some ⟨mb,0,none⟩:=by
    rcases hr.2 with⟨h,h'⟩|⟨g,cap',cur,h,_⟩
    ·omega
    ·cases h;exact⟨g,rfl⟩
   subst hA;rw [GY.out] at h0 h1;obtain⟨ad,had⟩:∃ad:Nat,vb+im=(ad:Int):=⟨(vb+im).toNat,by omega⟩;have ML:ad<n:=by omega
   rw [had] at c0 H9;have d1:decide ((ad:Int)<0)=false:=by simp
   have d2:decide ((n:Int)≤(ad:Int))=false:=by simp;omega
   have d3:decide (n≤ad)=false:=by simp;omega
   have EW:=A3 (CS hr B2.out);have Qo:=XW EW.out ad ML;have Yg:=(EW.out.lt mb rfl).2;have kH:(ad:Int)<(n:Int):=by omega
   have HAD:=A3 had;have Sz:=A3 (show mb≠xb from fun e=>by have h1:=hr.2;rcases h1 with⟨h,_⟩|⟨g,cap',cur,h,_,hk,_⟩;cases h;cases h;rw [e,hx'.out] at hk;simp at hk);clear h0 h1 hr had;go_upto_region 6 with fail;obtain⟨W3,hW3⟩:=A8 (W2.setCell ⟨xb,7,none⟩ (.int .i64 (ad:Int)));have f3:Fr (· = xb) W2 W3:=hW3▸(Fr.refl (· = xb) _).set _ (.inl rfl);have Hg:=A3 (show W3.heap[xb]?=some (.cells (Bo ⟨20,a,b,c,im⟩ s.pc false (ad:Int) 0 sb (s.pc+1)) 141 (0,0)) by rw [←hW3,Cl W2 xb 7 _ _ _ EK.out];rfl);have Nt:=(f3.block ib SX (fun e=>by rw [e,EK.out] at Gy;have:=Gy.out;simp [Bo] at this)).trans Gy.out;obtain⟨y0,-,-,-,-,fU⟩:=Gg Nt;have km3:=(f3.block mc Ss (fun e=>by rw [e,EK.out] at Gz;have:=Gz.out;simp [Bo] at this)).trans Gz.out;have ka3:=(f3.block ab lab (fun e=>by rw [e,EK.out] at H9;have:=H9.out;simp [Bo] at this)).trans H9.out;obtain⟨y1,asC⟩:=one_cell' km3;obtain⟨y2,yM⟩:=one_cell' ka3;have y3:W3.cell? ⟨mb,ad,none⟩=some (.int .i32 (ml.getD ad 0)):=(f3.cell ad Yg Sz.out).trans Qo;have hs3:=f3.size;have aqk:mb<W3.heap.size:=by omega
   have F3:=A3 f3;rw [hW3];clear hW3 f3 Nt km3 ka3 c0 m0 j0 j1 j2 j3 j4 x0 x1 x2 x3 x4 x5 x6 x7 x8 x9 x10 xf7 Qo;go_wp2_with (go_at_call 91;refine (aZ xb _ _).mono ?_;rintro e W4 ⟨⟨c0,c1,rfl,k0,k1⟩,hb4⟩);go_ret2;rw [GY.out,HAD.out];refine⟨⟨c0,c1,rfl,k0,by rw [k1];simp⟩,(hb4.block xb A0).trans Hg.out,?_⟩;exact (Fr.of B2.out).trans (F3.out.trans (Fr.of hb4))
theorem aqt (xb sb:Nat) (im:Int) (a b c:Nat) (hb:b<16) (him : -131072≤im∧im≤131071) (s:St) (mv:Value) (A:Option Addr) (n cap:Nat) (Gw:mv=.slice A n cap) (hn:n≤1000000) (ml:List Int) (h0:0≤A7 s (b:Int)+im) (h1:A7 s (b:Int)+im<(n:Int)) (w:World)
  (hx:w.heap[xb]?=some (.cells (Bo ⟨19,a,b,c,im⟩ s.pc false (-1) 0 sb (s.pc+1)) 141 (0,0))) (hM:Bx w sb s) (hr:w.ownsRow 0 21 1 mv n (F0 ml)) :
  Calls Tryz.prog 92 #[.pointer (some ⟨xb,0,none⟩),mv] w fun e w'=>(∃c0 ib mc ac ad mb,e=.returned (.tuple #[.func (.func 111) #[] #[.pointer (some ⟨c0,0,none⟩),.pointer (some ⟨ib,0,none⟩),.pointer (some ⟨mc,0,none⟩),.pointer (some ⟨ac,0,none⟩)],.int .i64 0])∧mv=.slice (some ⟨mb,0,none⟩) n cap∧ad<n∧(ad:Int)=A7 s (b:Int)+im∧w'.cell? ⟨c0,0,none⟩=some (.pointer (some ⟨sb,0,none⟩))∧w'.cell? ⟨ib,1,none⟩=some (.int .i64 (a:Int))∧w'.cell? ⟨mc,0,none⟩=some mv∧w'.cell? ⟨ac,0,none⟩=some (.int .i64 (ad:Int)))∧w'.heap[xb]?=some (.cells (Bo ⟨19,a,b,c,im⟩ s.pc false (A7 s (b:Int)+im) 0 sb (s.pc+1)) 141 (0,0))∧Fr (· = xb) w w':=by
 subst Gw;have hx':=A3 hx;obtain⟨W0,hW0⟩:=A8 (w.alloc (.cells #[.slice A n cap] 79));have b0:Below w.heap.size w W0:=hW0▸(AV _ _).alloc (AH _) _;have k0:W0.heap[w.heap.size]?=some (.cells #[.slice A n cap] 79 (0,0)):=by rw [←hW0];exact AY _ _
 have lx0:=Ak hx;have⟨CE,Dj⟩:=AQ ((b0.block xb lx0).trans hx) (hM.keep (b0.block sb hM.lt));obtain⟨x0,x1,x2,x3,x4,x5,-,-,-,x9,-,xf⟩:=D9 CE.out;obtain⟨m0,mlt⟩:=one_cell' k0;have lx:=Ak CE.out;have⟨B0,K0⟩:=AQ b0 k0;have hs0:=b0.size;have LX:=A3 lx0;obtain⟨mc,hmc⟩:=A8 w.heap.size;have HMC:=A3 hmc;clear hx hM xf b0 k0 lx0;rw [hmc] at K0 m0 mlt;simp only at x0 x1 x2 x3 x4;go_enter ZU,Zk;go_upto_region 1 with fail;clear hW0;try rw [hmc]
 clear hmc;go_cut [6,7] from 9 to 17 (fun a6 a7 wx=>∃ib cb,a6=.pointer (some ⟨ib,0,none⟩)∧a7=.pointer (some ⟨cb,0,none⟩)∧wx.heap[ib]?=some (.cells #[.int .u8 19,.int .i64 a,.int .i64 b,.int .i64 c,.int .i64 im] 67 (0,0))∧wx.heap[cb]?=some (.cells #[.pointer (some ⟨sb,0,none⟩)] 91 (0,0))∧Below W0.heap.size W0 wx)
 case first=>
  go_region
  all_goals
   go_wp2_with fail;go_meet;case rel=>first
    | exact⟨_,_,rfl,rfl,(Be W0 _ _).1,(Be W0 _ _).2.1,(Be W0 _ _).2.2⟩
    | exact⟨_,_,rfl,rfl,(Be W0 _ _).2.1,(Be W0 _ _).1,(Be W0 _ _).2.2⟩
 case rest=>
  obtain⟨ib,cb,rfl,rfl,Bp,Cy,Am⟩:=hcut;obtain⟨W1,hW1⟩:∃W1:World,W1=wc:=⟨_,rfl⟩;subst hW1;obtain⟨i0,i1,i2,i3,i4,li⟩:=Gg Bp;obtain⟨cb0,J0⟩:=one_cell' Cy;have⟨Bz,B1,BC,K1,Kl,Io⟩:=Lt (Dj.out.keep (Am.block sb Dj.out.lt)) (B0.out.trans (Am.mono hs0)) ((Am.block xb lx).trans CE.out) ((Am.block mc mlt).trans K0.out) Bp Cy;have lsb:=Bz.out.lt;have JD:=Bz.out.A7 hb;have gb:(b:Int)<16:=by omega
  have gb2:decide ((16:Int)≤(b:Int))=false:=Ad A0;have J4:=Bz.out.Oi b;obtain⟨vb,GL⟩:=A8 (s.r.getD b 0);rw [GL] at JD J4;have GY:=A3 (show A7 s (b:Int)=vb by rw [M9];exact GL);unfold AL at J4;have wad:IntKind.i64.wrap (vb+im)=vb+im:=Dn _ A0;have wvb:IntKind.i64.wrap vb=vb:=Dn _ A0;clear Bp Cy GL x0 x1 x2 x3 x4 x5 x9 m0 K0;go_upto_region 2 with fail;go_cut [8] from 18 to 28 (fun a8 wx=>∃ab,a8=.pointer (some ⟨ab,0,none⟩)∧wx.heap[ab]?=some (.cells #[.int .i64 (vb+im)] 3 (0,0))∧Below W1.heap.size W1 wx∧W1.heap.size≤ab)
  case first=>
   go_region
   all_goals
    go_wp2_with fail;go_meet;case rel=>exact⟨_,rfl,by first|exact AY _ _|(rw [World.drew];exact AY _ _),(Dl (AV _ _)).alloc AR _,by simp⟩
  case rest=>
   obtain⟨ab,rfl,II,Dd,hab⟩:=hcut;obtain⟨W2,hW2⟩:∃W2:World,W2=wc:=⟨_,rfl⟩;subst hW2;have hs1:=B1.out.size;have⟨Gy,Mn⟩:=AQ ((Dd.block ib li).trans Kl.out) ((Dd.block cb J0).trans Io.out);have QD:mc<W1.heap.size:=Ak K1.out;have lx1:xb<W1.heap.size:=Ak BC.out;have⟨Gz,EK,Jh,B2,H9⟩:=FP ((Dd.block mc QD).trans K1.out) ((Dd.block xb lx1).trans BC.out) (Bz.out.keep (Dd.block sb lsb)) (B1.out.trans (Dd.mono hs1)) II;obtain⟨c0,lab⟩:=one_cell' II;obtain⟨m0,Ss⟩:=one_cell' Gz.out;obtain⟨j0,j1,j2,j3,j4,SX⟩:=Gg Gy.out;obtain⟨x0,x1,x2,x3,x4,x5,x6,x7,x8,x9,x10,xf⟩:=D9 EK.out;have xf7:=xf 7;have lx2:=Ak EK.out;have lxw:=LX.out;clear II Dd i0 i1 i2 i3 i4 cb0 JD xf Am;simp only at x0 x1 x2 x3 x4;obtain⟨mb,hA⟩:∃mb,A=some ⟨mb,0,none⟩:=by
    rcases hr.2 with⟨h,h'⟩|⟨g,cap',cur,h,_⟩
    ·omega
    ·cases h;exact⟨g,rfl⟩
   subst hA;rw [GY.out] at h0 h1;obtain⟨ad,had⟩:∃ad:Nat,vb+im=(ad:Int):=⟨(vb+im).toNat,by omega⟩;have ML:ad<n:=by omega
   rw [had] at c0 H9;have d1:decide ((ad:Int)<0)=false:=by simp
   have d2:decide ((n:Int)≤(ad:Int))=false:=by simp;omega
   have d3:decide (n≤ad)=false:=by simp;omega
   have EW:=A3 (CS hr B2.out);have Qo:=XW EW.out ad ML;have Yg:=(EW.out.lt mb rfl).2;have kH:(ad:Int)<(n:Int):=by omega
   have HAD:=A3 had;have Sz:=A3 (show mb≠xb from fun e=>by have h1:=hr.2;rcases h1 with⟨h,_⟩|⟨g,cap',cur,h,_,hk,_⟩;cases h;cases h;rw [e,hx'.out] at hk;simp at hk);clear h0 h1 hr had;go_upto_region 6 with fail;obtain⟨W3,hW3⟩:=A8 (W2.setCell ⟨xb,7,none⟩ (.int .i64 (ad:Int)));have f3:Fr (· = xb) W2 W3:=hW3▸(Fr.refl (· = xb) _).set _ (.inl rfl);have Hg:=A3 (show W3.heap[xb]?=some (.cells (Bo ⟨19,a,b,c,im⟩ s.pc false (ad:Int) 0 sb (s.pc+1)) 141 (0,0)) by rw [←hW3,Cl W2 xb 7 _ _ _ EK.out];rfl);have Nt:=(f3.block ib SX (fun e=>by rw [e,EK.out] at Gy;have:=Gy.out;simp [Bo] at this)).trans Gy.out;obtain⟨y0,Y1,-,-,-,fU⟩:=Gg Nt;have km3:=(f3.block mc Ss (fun e=>by rw [e,EK.out] at Gz;have:=Gz.out;simp [Bo] at this)).trans Gz.out;have ka3:=(f3.block ab lab (fun e=>by rw [e,EK.out] at H9;have:=H9.out;simp [Bo] at this)).trans H9.out;have kc3:=(f3.block cb (Ak Mn.out) (fun e=>by rw [e,EK.out] at Mn;have:=Mn.out;simp [Bo] at this)).trans Mn.out;have⟨QN,F3⟩:=AQ (Eg (one_cell' kc3).1 (Eg Y1 (Eg (one_cell' km3).1 (one_cell' ka3).1))) f3;rw [hW3];clear hW3 f3 Nt km3 ka3 kc3 Y1 c0 m0 j0 j1 j2 j3 j4 x0 x1 x2 x3 x4 x5 x6 x7 x8 x9 x10 xf7 Qo;go_wp2_with fail;go_ret2;rw [GY.out,HAD.out];exact⟨⟨cb,ib,mc,ab,ad,mb,rfl,rfl,ML,rfl,QN.out.1,QN.out.2.1,QN.out.2.2.1,QN.out.2.2.2⟩,Hg.out,(Fr.of B2.out).trans F3.out⟩
theorem adG (xb sb:Nat) (im:Int) (a b c:Nat) (hb:b<16) (him : -131072≤im∧im≤131071) (s:St) (mv:Value) (A:Option Addr) (n cap:Nat) (Gw:mv=.slice A n cap) (hn:n≤1000000) (ml:List Int) (h0:0≤A7 s (b:Int)+im) (h1:A7 s (b:Int)+im<(n:Int)) (w:World)
  (hx:w.heap[xb]?=some (.cells (Bo ⟨21,a,b,c,im⟩ s.pc false (-1) 0 sb (s.pc+1)) 141 (0,0))) (hM:Bx w sb s) (hr:w.ownsRow 0 21 1 mv n (F0 ml)) :
  Calls Tryz.prog 92 #[.pointer (some ⟨xb,0,none⟩),mv] w fun e w'=>(∃c0 ib mc ac ad mb,e=.returned (.tuple #[.func (.func 111) #[] #[.pointer (some ⟨c0,0,none⟩),.pointer (some ⟨ib,0,none⟩),.pointer (some ⟨mc,0,none⟩),.pointer (some ⟨ac,0,none⟩)],.int .i64 0])∧mv=.slice (some ⟨mb,0,none⟩) n cap∧ad<n∧(ad:Int)=A7 s (b:Int)+im∧w'.cell? ⟨c0,0,none⟩=some (.pointer (some ⟨sb,0,none⟩))∧w'.cell? ⟨ib,1,none⟩=some (.int .i64 (a:Int))∧w'.cell? ⟨mc,0,none⟩=some mv∧w'.cell? ⟨ac,0,none⟩=some (.int .i64 (ad:Int)))∧w'.heap[xb]?=some (.cells (Bo ⟨21,a,b,c,im⟩ s.pc false (A7 s (b:Int)+im) 0 sb (s.pc+1)) 141 (0,0))∧Fr (· = xb) w w':=by
 subst Gw;have hx':=A3 hx;obtain⟨W0,hW0⟩:=A8 (w.alloc (.cells #[.slice A n cap] 79));have b0:Below w.heap.size w W0:=hW0▸(AV _ _).alloc (AH _) _;have k0:W0.heap[w.heap.size]?=some (.cells #[.slice A n cap] 79 (0,0)):=by rw [←hW0];exact AY _ _
 have lx0:=Ak hx;have⟨CE,Dj⟩:=AQ ((b0.block xb lx0).trans hx) (hM.keep (b0.block sb hM.lt));obtain⟨x0,x1,x2,x3,x4,x5,-,-,-,x9,-,xf⟩:=D9 CE.out;obtain⟨m0,mlt⟩:=one_cell' k0;have lx:=Ak CE.out;have⟨B0,K0⟩:=AQ b0 k0;have hs0:=b0.size;have LX:=A3 lx0;obtain⟨mc,hmc⟩:=A8 w.heap.size;have HMC:=A3 hmc;clear hx hM xf b0 k0 lx0;rw [hmc] at K0 m0 mlt;simp only at x0 x1 x2 x3 x4;go_enter ZU,Zk;go_upto_region 1 with fail;clear hW0;try rw [hmc]
 clear hmc;go_cut [6,7] from 9 to 17 (fun a6 a7 wx=>∃ib cb,a6=.pointer (some ⟨ib,0,none⟩)∧a7=.pointer (some ⟨cb,0,none⟩)∧wx.heap[ib]?=some (.cells #[.int .u8 21,.int .i64 a,.int .i64 b,.int .i64 c,.int .i64 im] 67 (0,0))∧wx.heap[cb]?=some (.cells #[.pointer (some ⟨sb,0,none⟩)] 91 (0,0))∧Below W0.heap.size W0 wx)
 case first=>
  go_region
  all_goals
   go_wp2_with fail;go_meet;case rel=>first
    | exact⟨_,_,rfl,rfl,(Be W0 _ _).1,(Be W0 _ _).2.1,(Be W0 _ _).2.2⟩
    | exact⟨_,_,rfl,rfl,(Be W0 _ _).2.1,(Be W0 _ _).1,(Be W0 _ _).2.2⟩
 case rest=>
  obtain⟨ib,cb,rfl,rfl,Bp,Cy,Am⟩:=hcut;obtain⟨W1,hW1⟩:∃W1:World,W1=wc:=⟨_,rfl⟩;subst hW1;obtain⟨i0,i1,i2,i3,i4,li⟩:=Gg Bp;obtain⟨cb0,J0⟩:=one_cell' Cy;have⟨Bz,B1,BC,K1,Kl,Io⟩:=Lt (Dj.out.keep (Am.block sb Dj.out.lt)) (B0.out.trans (Am.mono hs0)) ((Am.block xb lx).trans CE.out) ((Am.block mc mlt).trans K0.out) Bp Cy;have lsb:=Bz.out.lt;have JD:=Bz.out.A7 hb;have gb:(b:Int)<16:=by omega
  have gb2:decide ((16:Int)≤(b:Int))=false:=Ad A0;have J4:=Bz.out.Oi b;obtain⟨vb,GL⟩:=A8 (s.r.getD b 0);rw [GL] at JD J4;have GY:=A3 (show A7 s (b:Int)=vb by rw [M9];exact GL);unfold AL at J4;have wad:IntKind.i64.wrap (vb+im)=vb+im:=Dn _ A0;have wvb:IntKind.i64.wrap vb=vb:=Dn _ A0;clear Bp Cy GL x0 x1 x2 x3 x4 x5 x9 m0 K0;go_upto_region 2 with fail;go_cut [8] from 18 to 28 (fun a8 wx=>∃ab,a8=.pointer (some ⟨ab,0,none⟩)∧wx.heap[ab]?=some (.cells #[.int .i64 (vb+im)] 3 (0,0))∧Below W1.heap.size W1 wx∧W1.heap.size≤ab)
  case first=>
   go_region
   all_goals
    go_wp2_with fail;go_meet;case rel=>exact⟨_,rfl,by first|exact AY _ _|(rw [World.drew];exact AY _ _),(Dl (AV _ _)).alloc AR _,by simp⟩
  case rest=>
   obtain⟨ab,rfl,II,Dd,hab⟩:=hcut;obtain⟨W2,hW2⟩:∃W2:World,W2=wc:=⟨_,rfl⟩;subst hW2;have hs1:=B1.out.size;have⟨Gy,Mn⟩:=AQ ((Dd.block ib li).trans Kl.out) ((Dd.block cb J0).trans Io.out);have QD:mc<W1.heap.size:=Ak K1.out;have lx1:xb<W1.heap.size:=Ak BC.out;have⟨Gz,EK,Jh,B2,H9⟩:=FP ((Dd.block mc QD).trans K1.out) ((Dd.block xb lx1).trans BC.out) (Bz.out.keep (Dd.block sb lsb)) (B1.out.trans (Dd.mono hs1)) II;obtain⟨c0,lab⟩:=one_cell' II;obtain⟨m0,Ss⟩:=one_cell' Gz.out;obtain⟨j0,j1,j2,j3,j4,SX⟩:=Gg Gy.out;obtain⟨x0,x1,x2,x3,x4,x5,x6,x7,x8,x9,x10,xf⟩:=D9 EK.out;have xf7:=xf 7;have lx2:=Ak EK.out;have lxw:=LX.out;clear II Dd i0 i1 i2 i3 i4 cb0 JD xf Am;simp only at x0 x1 x2 x3 x4;obtain⟨mb,hA⟩:∃mb,A=some ⟨mb,0,none⟩:=by
    rcases hr.2 with⟨h,h'⟩|⟨g,cap',cur,h,_⟩
    ·omega
    ·cases h;exact⟨g,rfl⟩
   subst hA;rw [GY.out] at h0 h1;obtain⟨ad,had⟩:∃ad:Nat,vb+im=(ad:Int):=⟨(vb+im).toNat,by omega⟩;have ML:ad<n:=by omega
   rw [had] at c0 H9;have d1:decide ((ad:Int)<0)=false:=by simp
   have d2:decide ((n:Int)≤(ad:Int))=false:=by simp;omega
   have d3:decide (n≤ad)=false:=by simp;omega
   have EW:=A3 (CS hr B2.out);have Qo:=XW EW.out ad ML;have Yg:=(EW.out.lt mb rfl).2;have kH:(ad:Int)<(n:Int):=by omega
   have HAD:=A3 had;have Sz:=A3 (show mb≠xb from fun e=>by have h1:=hr.2;rcases h1 with⟨h,_⟩|⟨g,cap',cur,h,_,hk,_⟩;cases h;cases h;rw [e,hx'.out] at hk;simp at hk);clear h0 h1 hr had;go_upto_region 6 with fail;obtain⟨W3,hW3⟩:=A8 (W2.setCell ⟨xb,7,none⟩ (.int .i64 (ad:Int)));have f3:Fr (· = xb) W2 W3:=hW3▸(Fr.refl (· = xb) _).set _ (.inl rfl);have Hg:=A3 (show W3.heap[xb]?=some (.cells (Bo ⟨21,a,b,c,im⟩ s.pc false (ad:Int) 0 sb (s.pc+1)) 141 (0,0)) by rw [←hW3,Cl W2 xb 7 _ _ _ EK.out];rfl);have Nt:=(f3.block ib SX (fun e=>by rw [e,EK.out] at Gy;have:=Gy.out;simp [Bo] at this)).trans Gy.out;obtain⟨y0,Y1,-,-,-,fU⟩:=Gg Nt;have km3:=(f3.block mc Ss (fun e=>by rw [e,EK.out] at Gz;have:=Gz.out;simp [Bo] at this)).trans Gz.out;have ka3:=(f3.block ab lab (fun e=>by rw [e,EK.out] at H9;have:=H9.out;simp [Bo] at this)).trans H9.out;have kc3:=(f3.block cb (Ak Mn.out) (fun e=>by rw [e,EK.out] at Mn;have:=Mn.out;simp [Bo] at this)).trans Mn.out;have⟨QN,F3⟩:=AQ (Eg (one_cell' kc3).1 (Eg Y1 (Eg (one_cell' km3).1 (one_cell' ka3).1))) f3;rw [hW3];clear hW3 f3 Nt km3 ka3 kc3 Y1 c0 m0 j0 j1 j2 j3 j4 x0 x1 x2 x3 x4 x5 x6 x7 x8 x9 x10 xf7 Qo;go_wp2_with fail;go_ret2;rw [GY.out,HAD.out];exact⟨⟨cb,ib,mc,ab,ad,mb,rfl,rfl,ML,rfl,QN.out.1,QN.out.2.1,QN.out.2.2.1,QN.out.2.2.2⟩,Hg.out,(Fr.of B2.out).trans F3.out⟩
theorem Sn {W w':World} {xb:Nat} (h:Below W.heap.size W w') (hx:xb<W.heap.size):(∀o,o<10→w'.cell? ⟨xb,o,none⟩=W.cell? ⟨xb,o,none⟩)∧Fr (· = xb) W w':=⟨fun o _=>h.cell (p:=⟨xb,o,none⟩) hx,Fr.of h⟩
theorem S6 {W w':World} {xb:Nat} (h:(∀o,o<10→w'.cell? ⟨xb,o,none⟩=W.cell? ⟨xb,o,none⟩)∧Fr (· = xb) W w') (v:Value):(∀o,o<10→(w'.setCell ⟨xb,10,none⟩ v).cell? ⟨xb,o,none⟩=W.cell? ⟨xb,o,none⟩)∧Fr (· = xb) W (w'.setCell ⟨xb,10,none⟩ v):=
 ⟨fun o ho=>by rw [←h.1 o ho];exact World.cell?_setCell_other _ _ _ _ (by intro e;cases e;omega),h.2.set _ (.inl rfl)⟩
def V9 (xb sb:Nat) (I:Ins) (s:St) (w:World) (e:Ending) (w':World):Prop:=
 e=.returned (.tuple #[.func (.func 90) #[] #[],.int .i64 0])∧(∃tk,w'.heap[xb]?=some (.cells (Bo I s.pc tk (-1) 0 sb (if taken I s=true then s.pc+1+I.AD else s.pc+1)) 141 (0,0)))∧Fr (· = xb) w w'
theorem dO {W w':World} (h:Below W.heap.size W w'):(∀b o,b<W.heap.size→w'.cell? ⟨b,o,none⟩=W.cell? ⟨b,o,none⟩)∧Below W.heap.size W w':=⟨fun b o hb=>h.cell (p:=⟨b,o,none⟩) hb,h⟩
theorem zo (xb sb:Nat) (im lk a b c:Int) (s:St) (h:¬(s.held<0∧im<lk)) (w:World)
  (hx:w.heap[xb]?=some (.cells (Bo ⟨28,a,b,c,im⟩ s.pc false (-1) 0 sb (s.pc+1)) 141 (0,0))) (hM:Bx w sb s) :
  Calls Tryz.prog 94 #[.pointer (some ⟨xb,0,none⟩),.int .i64 lk] w fun e w'=>e=.returned (.tuple #[.nilFunc,.int .i64 12])∧Below w.heap.size w w':=by
 have⟨CE,Dj⟩:=AQ hx hM;obtain⟨x0,x1,x2,x3,x4,x5,-,-,-,x9,-,xf⟩:=D9 CE.out;have lx:=Ak CE.out;clear hx hM xf;simp only at x0 x1 x2 x3 x4;go_enter Yv,Yx;go_upto_region 1 with fail;go_cut [6,7] from 8 to 16 (fun a6 a7 wx=>∃ib cb,a6=.pointer (some ⟨ib,0,none⟩)∧a7=.pointer (some ⟨cb,0,none⟩)∧wx.heap[ib]?=some (.cells #[.int .u8 28,.int .i64 a,.int .i64 b,.int .i64 c,.int .i64 im] 67 (0,0))∧wx.heap[cb]?=some (.cells #[.pointer (some ⟨sb,0,none⟩)] 91 (0,0))∧Below w.heap.size w wx)
 case first=>
  go_region
  all_goals
   go_wp2_with fail;go_meet;case rel=>first
    | exact⟨_,_,rfl,rfl,(Be w _ _).1,(Be w _ _).2.1,(Be w _ _).2.2⟩
    | exact⟨_,_,rfl,rfl,(Be w _ _).2.1,(Be w _ _).1,(Be w _ _).2.2⟩
 case rest=>
  obtain⟨ib,cb,rfl,rfl,Bp,Cy,Am⟩:=hcut;obtain⟨W1,hW1⟩:∃W1:World,W1=wc:=⟨_,rfl⟩;subst hW1;obtain⟨i0,i1,i2,i3,i4,li⟩:=Gg Bp;obtain⟨cb0,J0⟩:=one_cell' Cy;have⟨Bz,B1,BC,Kl,Io⟩:=FP (Dj.out.keep (Am.block sb Dj.out.lt)) Am ((Am.block xb lx).trans CE.out) Bp Cy;have lsb:=Bz.out.lt;have Nj:=Bz.out.held;obtain⟨y0,y1,y2,y3,y4,y5,y6,y7,y8,y9,y10,yf⟩:=D9 BC.out;have YP:=yf 10;have lx1:=Ak BC.out;obtain⟨hd,E5⟩:=A8 s.held;obtain⟨pc,hpc⟩:=A8 s.pc;rw [E5] at Nj;rw [hpc] at y5 y10;have Dw:=A3 hpc;clear Bp Cy Am x0 x1 x2 x3 x4 x5 x9 yf;rw [E5] at h;by_cases h1:0≤hd
  ·have d:=Ac h1
   clear h h1 E5 hpc;go_wp2_with fail;go_ret2;exact⟨rfl,B1.out⟩
  ·have d:=Ad h1
   have d2:decide (lk≤im)=true:=Ac A0;clear h h1 E5 hpc;go_wp2_with fail;go_ret2;exact⟨rfl,B1.out⟩
theorem yK (xb sb:Nat) (im lk a b c:Int) (s:St) (h:s.held<0) (h2:im<lk) (w:World)
  (hx:w.heap[xb]?=some (.cells (Bo ⟨28,a,b,c,im⟩ s.pc false (-1) 0 sb (s.pc+1)) 141 (0,0))) (hM:Bx w sb s) :
  Calls Tryz.prog 94 #[.pointer (some ⟨xb,0,none⟩),.int .i64 lk] w fun e w'=>(∃ib cb,e=.returned (.tuple #[.func (.func 112) #[] #[.pointer (some ⟨ib,0,none⟩),.pointer (some ⟨cb,0,none⟩)],.int .i64 0])∧w'.cell? ⟨ib,4,none⟩=some (.int .i64 im)∧w'.cell? ⟨cb,0,none⟩=some (.pointer (some ⟨sb,0,none⟩)))∧Below w.heap.size w w':=by
 have⟨CE,Dj⟩:=AQ hx hM;obtain⟨x0,x1,x2,x3,x4,x5,-,-,-,x9,-,xf⟩:=D9 CE.out;have lx:=Ak CE.out;clear hx hM xf;simp only at x0 x1 x2 x3 x4;go_enter Yv,Yx;go_upto_region 1 with fail;go_cut [6,7] from 8 to 16 (fun a6 a7 wx=>∃ib cb,a6=.pointer (some ⟨ib,0,none⟩)∧a7=.pointer (some ⟨cb,0,none⟩)∧wx.heap[ib]?=some (.cells #[.int .u8 28,.int .i64 a,.int .i64 b,.int .i64 c,.int .i64 im] 67 (0,0))∧wx.heap[cb]?=some (.cells #[.pointer (some ⟨sb,0,none⟩)] 91 (0,0))∧Below w.heap.size w wx)
 case first=>
  go_region
  all_goals
   go_wp2_with fail;go_meet;case rel=>first
    | exact⟨_,_,rfl,rfl,(Be w _ _).1,(Be w _ _).2.1,(Be w _ _).2.2⟩
    | exact⟨_,_,rfl,rfl,(Be w _ _).2.1,(Be w _ _).1,(Be w _ _).2.2⟩
 case rest=>
  obtain⟨ib,cb,rfl,rfl,Bp,Cy,Am⟩:=hcut;obtain⟨W1,hW1⟩:∃W1:World,W1=wc:=⟨_,rfl⟩;subst hW1;obtain⟨i0,i1,i2,i3,i4,li⟩:=Gg Bp;obtain⟨cb0,J0⟩:=one_cell' Cy;have⟨Bz,B1,BC,Kl,Io⟩:=FP (Dj.out.keep (Am.block sb Dj.out.lt)) Am ((Am.block xb lx).trans CE.out) Bp Cy;have lsb:=Bz.out.lt;have Nj:=Bz.out.held;obtain⟨y0,y1,y2,y3,y4,y5,y6,y7,y8,y9,y10,yf⟩:=D9 BC.out;have YP:=yf 10;have lx1:=Ak BC.out;obtain⟨hd,E5⟩:=A8 s.held;obtain⟨pc,hpc⟩:=A8 s.pc;rw [E5] at Nj;rw [hpc] at y5 y10;have Dw:=A3 hpc;clear Bp Cy Am x0 x1 x2 x3 x4 x5 x9 yf;rw [E5] at h;have d:decide (0≤hd)=false:=Ad A0;have d2:decide (lk≤im)=false:=Ad A0;have⟨I4,CB⟩:=AQ i4 cb0;clear h h2 E5 hpc;go_wp2_with fail;go_ret2;exact⟨⟨ib,cb,rfl,I4.out,CB.out⟩,B1.out⟩
theorem aeX (xb sb:Nat) (im lk a b c:Int) (s:St) (h:s.held≠im) (w:World)
  (hx:w.heap[xb]?=some (.cells (Bo ⟨29,a,b,c,im⟩ s.pc false (-1) 0 sb (s.pc+1)) 141 (0,0))) (hM:Bx w sb s) :
  Calls Tryz.prog 94 #[.pointer (some ⟨xb,0,none⟩),.int .i64 lk] w fun e w'=>e=.returned (.tuple #[.nilFunc,.int .i64 12])∧Below w.heap.size w w':=by
 have⟨CE,Dj⟩:=AQ hx hM;obtain⟨x0,x1,x2,x3,x4,x5,-,-,-,x9,-,xf⟩:=D9 CE.out;have lx:=Ak CE.out;clear hx hM xf;simp only at x0 x1 x2 x3 x4;go_enter Yv,Yx;go_upto_region 1 with fail;go_cut [6,7] from 8 to 16 (fun a6 a7 wx=>∃ib cb,a6=.pointer (some ⟨ib,0,none⟩)∧a7=.pointer (some ⟨cb,0,none⟩)∧wx.heap[ib]?=some (.cells #[.int .u8 29,.int .i64 a,.int .i64 b,.int .i64 c,.int .i64 im] 67 (0,0))∧wx.heap[cb]?=some (.cells #[.pointer (some ⟨sb,0,none⟩)] 91 (0,0))∧Below w.heap.size w wx)
 case first=>
  go_region
  all_goals
   go_wp2_with fail;go_meet;case rel=>first
    | exact⟨_,_,rfl,rfl,(Be w _ _).1,(Be w _ _).2.1,(Be w _ _).2.2⟩
    | exact⟨_,_,rfl,rfl,(Be w _ _).2.1,(Be w _ _).1,(Be w _ _).2.2⟩
 case rest=>
  obtain⟨ib,cb,rfl,rfl,Bp,Cy,Am⟩:=hcut;obtain⟨W1,hW1⟩:∃W1:World,W1=wc:=⟨_,rfl⟩;subst hW1;obtain⟨i0,i1,i2,i3,i4,li⟩:=Gg Bp;obtain⟨cb0,J0⟩:=one_cell' Cy;have⟨Bz,B1,BC,Kl,Io⟩:=FP (Dj.out.keep (Am.block sb Dj.out.lt)) Am ((Am.block xb lx).trans CE.out) Bp Cy;have lsb:=Bz.out.lt;have Nj:=Bz.out.held;obtain⟨y0,y1,y2,y3,y4,y5,y6,y7,y8,y9,y10,yf⟩:=D9 BC.out;have YP:=yf 10;have lx1:=Ak BC.out;obtain⟨hd,E5⟩:=A8 s.held;obtain⟨pc,hpc⟩:=A8 s.pc;rw [E5] at Nj;rw [hpc] at y5 y10;have Dw:=A3 hpc;clear Bp Cy Am x0 x1 x2 x3 x4 x5 x9 yf;rw [E5] at h;have d:(hd != im)=true:=by simpa using h
  clear h E5 hpc;go_upto_region 8 with fail;refine C7 A4 A4 ?_;repeat (go_big_quiet_step (fail))
  refine BD ?_;rintro _ ⟨y,rfl⟩;go_wp2_with fail;go_ret2;exact⟨rfl,Ext.below B1.out B1.out.size y⟩
theorem aqY (xb sb:Nat) (im lk a b c:Int) (s:St) (h:s.held=im) (w:World)
  (hx:w.heap[xb]?=some (.cells (Bo ⟨29,a,b,c,im⟩ s.pc false (-1) 0 sb (s.pc+1)) 141 (0,0))) (hM:Bx w sb s) :
  Calls Tryz.prog 94 #[.pointer (some ⟨xb,0,none⟩),.int .i64 lk] w fun e w'=>(∃cb,e=.returned (.tuple #[.func (.func 113) #[] #[.pointer (some ⟨cb,0,none⟩)],.int .i64 0])∧w'.cell? ⟨cb,0,none⟩=some (.pointer (some ⟨sb,0,none⟩)))∧Below w.heap.size w w':=by
 have⟨CE,Dj⟩:=AQ hx hM;obtain⟨x0,x1,x2,x3,x4,x5,-,-,-,x9,-,xf⟩:=D9 CE.out;have lx:=Ak CE.out;clear hx hM xf;simp only at x0 x1 x2 x3 x4;go_enter Yv,Yx;go_upto_region 1 with fail;go_cut [6,7] from 8 to 16 (fun a6 a7 wx=>∃ib cb,a6=.pointer (some ⟨ib,0,none⟩)∧a7=.pointer (some ⟨cb,0,none⟩)∧wx.heap[ib]?=some (.cells #[.int .u8 29,.int .i64 a,.int .i64 b,.int .i64 c,.int .i64 im] 67 (0,0))∧wx.heap[cb]?=some (.cells #[.pointer (some ⟨sb,0,none⟩)] 91 (0,0))∧Below w.heap.size w wx)
 case first=>
  go_region
  all_goals
   go_wp2_with fail;go_meet;case rel=>first
    | exact⟨_,_,rfl,rfl,(Be w _ _).1,(Be w _ _).2.1,(Be w _ _).2.2⟩
    | exact⟨_,_,rfl,rfl,(Be w _ _).2.1,(Be w _ _).1,(Be w _ _).2.2⟩
 case rest=>
  obtain⟨ib,cb,rfl,rfl,Bp,Cy,Am⟩:=hcut;obtain⟨W1,hW1⟩:∃W1:World,W1=wc:=⟨_,rfl⟩;subst hW1;obtain⟨i0,i1,i2,i3,i4,li⟩:=Gg Bp;obtain⟨cb0,J0⟩:=one_cell' Cy;have⟨Bz,B1,BC,Kl,Io⟩:=FP (Dj.out.keep (Am.block sb Dj.out.lt)) Am ((Am.block xb lx).trans CE.out) Bp Cy;have lsb:=Bz.out.lt;have Nj:=Bz.out.held;obtain⟨y0,y1,y2,y3,y4,y5,y6,y7,y8,y9,y10,yf⟩:=D9 BC.out;have YP:=yf 10;have lx1:=Ak BC.out;obtain⟨hd,E5⟩:=A8 s.held;obtain⟨pc,hpc⟩:=A8 s.pc;rw [E5] at Nj;rw [hpc] at y5 y10;have Dw:=A3 hpc;clear Bp Cy Am x0 x1 x2 x3 x4 x5 x9 yf;rw [E5] at h;subst h;have d:(hd != hd)=false:=by simp
  have CB:=A3 cb0;clear E5 hpc;go_upto_region 8 with fail;refine C7 A4 A4 ?_;repeat (go_big_quiet_step (fail))
  refine BD ?_;rintro _ ⟨y,rfl⟩;go_wp2_with fail;go_ret2;exact⟨⟨cb,rfl,(y.cell cb 0 J0).trans CB.out⟩,Ext.below B1.out B1.out.size y⟩
theorem apV (xb sb:Nat) (im lk a b c:Int) (s:St) (h:¬s.held<0) (w:World)
  (hx:w.heap[xb]?=some (.cells (Bo ⟨1,a,b,c,im⟩ s.pc false (-1) 0 sb (s.pc+1)) 141 (0,0))) (hM:Bx w sb s) :
  Calls Tryz.prog 94 #[.pointer (some ⟨xb,0,none⟩),.int .i64 lk] w fun e w'=>e=.returned (.tuple #[.nilFunc,.int .i64 12])∧Below w.heap.size w w':=by
 have⟨CE,Dj⟩:=AQ hx hM;obtain⟨x0,x1,x2,x3,x4,x5,-,-,-,x9,-,xf⟩:=D9 CE.out;have lx:=Ak CE.out;clear hx hM xf;simp only at x0 x1 x2 x3 x4;go_enter Yv,Yx;go_upto_region 1 with fail;go_cut [6,7] from 8 to 16 (fun a6 a7 wx=>∃ib cb,a6=.pointer (some ⟨ib,0,none⟩)∧a7=.pointer (some ⟨cb,0,none⟩)∧wx.heap[ib]?=some (.cells #[.int .u8 1,.int .i64 a,.int .i64 b,.int .i64 c,.int .i64 im] 67 (0,0))∧wx.heap[cb]?=some (.cells #[.pointer (some ⟨sb,0,none⟩)] 91 (0,0))∧Below w.heap.size w wx)
 case first=>
  go_region
  all_goals
   go_wp2_with fail;go_meet;case rel=>first
    | exact⟨_,_,rfl,rfl,(Be w _ _).1,(Be w _ _).2.1,(Be w _ _).2.2⟩
    | exact⟨_,_,rfl,rfl,(Be w _ _).2.1,(Be w _ _).1,(Be w _ _).2.2⟩
 case rest=>
  obtain⟨ib,cb,rfl,rfl,Bp,Cy,Am⟩:=hcut;obtain⟨W1,hW1⟩:∃W1:World,W1=wc:=⟨_,rfl⟩;subst hW1;obtain⟨i0,i1,i2,i3,i4,li⟩:=Gg Bp;obtain⟨cb0,J0⟩:=one_cell' Cy;have⟨Bz,B1,BC,Kl,Io⟩:=FP (Dj.out.keep (Am.block sb Dj.out.lt)) Am ((Am.block xb lx).trans CE.out) Bp Cy;have lsb:=Bz.out.lt;have Nj:=Bz.out.held;obtain⟨y0,y1,y2,y3,y4,y5,y6,y7,y8,y9,y10,yf⟩:=D9 BC.out;have YP:=yf 10;have lx1:=Ak BC.out;obtain⟨hd,E5⟩:=A8 s.held;obtain⟨pc,hpc⟩:=A8 s.pc;rw [E5] at Nj;rw [hpc] at y5 y10;have Dw:=A3 hpc;clear Bp Cy Am x0 x1 x2 x3 x4 x5 x9 yf;rw [E5] at h;have d:decide (0≤hd)=true:=Ac A0;clear h E5 hpc;go_wp2_with fail;go_ret2;exact⟨rfl,B1.out⟩
theorem apN (xb sb:Nat) (im lk a b c:Int) (s:St) (h:s.held<0) (w:World)
  (hx:w.heap[xb]?=some (.cells (Bo ⟨1,a,b,c,im⟩ s.pc false (-1) 0 sb (s.pc+1)) 141 (0,0))) (hM:Bx w sb s) :
  Calls Tryz.prog 94 #[.pointer (some ⟨xb,0,none⟩),.int .i64 lk] w fun e w'=>(∃cb,e=.returned (.tuple #[.func (.func 114) #[] #[.pointer (some ⟨cb,0,none⟩)],.int .i64 0])∧w'.cell? ⟨cb,0,none⟩=some (.pointer (some ⟨sb,0,none⟩)))∧w'.heap[xb]?=some (.cells (Bo ⟨1,a,b,c,im⟩ s.pc false (-1) 0 sb s.pc) 141 (0,0))∧Fr (· = xb) w w':=by
 have⟨CE,Dj⟩:=AQ hx hM;obtain⟨x0,x1,x2,x3,x4,x5,-,-,-,x9,-,xf⟩:=D9 CE.out;have lx:=Ak CE.out;clear hx hM xf;simp only at x0 x1 x2 x3 x4;go_enter Yv,Yx;go_upto_region 1 with fail;go_cut [6,7] from 8 to 16 (fun a6 a7 wx=>∃ib cb,a6=.pointer (some ⟨ib,0,none⟩)∧a7=.pointer (some ⟨cb,0,none⟩)∧wx.heap[ib]?=some (.cells #[.int .u8 1,.int .i64 a,.int .i64 b,.int .i64 c,.int .i64 im] 67 (0,0))∧wx.heap[cb]?=some (.cells #[.pointer (some ⟨sb,0,none⟩)] 91 (0,0))∧Below w.heap.size w wx)
 case first=>
  go_region
  all_goals
   go_wp2_with fail;go_meet;case rel=>first
    | exact⟨_,_,rfl,rfl,(Be w _ _).1,(Be w _ _).2.1,(Be w _ _).2.2⟩
    | exact⟨_,_,rfl,rfl,(Be w _ _).2.1,(Be w _ _).1,(Be w _ _).2.2⟩
 case rest=>
  obtain⟨ib,cb,rfl,rfl,Bp,Cy,Am⟩:=hcut;obtain⟨W1,hW1⟩:∃W1:World,W1=wc:=⟨_,rfl⟩;subst hW1;obtain⟨i0,i1,i2,i3,i4,li⟩:=Gg Bp;obtain⟨cb0,J0⟩:=one_cell' Cy;have⟨Bz,B1,BC,Kl,Io⟩:=FP (Dj.out.keep (Am.block sb Dj.out.lt)) Am ((Am.block xb lx).trans CE.out) Bp Cy;have lsb:=Bz.out.lt;have Nj:=Bz.out.held;obtain⟨y0,y1,y2,y3,y4,y5,y6,y7,y8,y9,y10,yf⟩:=D9 BC.out;have YP:=yf 10;have lx1:=Ak BC.out;obtain⟨hd,E5⟩:=A8 s.held;obtain⟨pc,hpc⟩:=A8 s.pc;rw [E5] at Nj;rw [hpc] at y5 y10;have Dw:=A3 hpc;clear Bp Cy Am x0 x1 x2 x3 x4 x5 x9 yf;rw [E5] at h;have d:decide (0≤hd)=false:=Ad A0;have HCX:=A3 (show cb≠xb from fun e=>by rw [e,BC.out] at Io;have:=Io.out;simp [Bo] at this);clear h E5 hpc;go_wp2_with fail;go_ret2;refine⟨⟨cb,rfl,?_⟩,?_,(Fr.of B1.out).trans ((Fr.refl (· = xb) W1).set (o:=10) (.int .i64 pc) (.inl rfl))⟩
  ·rw [N3 (Bb _ _ _ _ HCX.out)]
   exact (one_cell' Io.out).1
  ·rw [Cl W1 xb 10 _ _ _ BC.out,Dw.out]
   rfl
theorem asE (xb sb:Nat) (im b c:Int) (a:Nat) (ha:a<16) (him : -131072≤im∧im≤131071) (s:St) (hpc:0≤s.pc∧s.pc≤1000000) (w:World)
  (hx:w.heap[xb]?=some (.cells (Bo ⟨22,a,b,c,im⟩ s.pc false (-1) 0 sb (s.pc+1)) 141 (0,0))) (hM:Bx w sb s) :
  Calls Tryz.prog 93 #[.pointer (some ⟨xb,0,none⟩)] w (V9 xb sb ⟨22,a,b,c,im⟩ s w):=by
 have⟨CE,Dj⟩:=AQ hx hM;obtain⟨x0,x1,x2,x3,x4,x5,-,-,-,x9,-,xf⟩:=D9 CE.out;have lx:=Ak CE.out;have lsb:=hM.lt;have Oc:=hM.A7 ha;have ga:(a:Int)<16:=by omega
 have ga2:decide ((16:Int)≤(a:Int))=false:=Ad A0;obtain⟨va,JQ⟩:=A8 (s.r.getD a 0);rw [JQ] at Oc;have Co:=A3 (show A7 s (a:Int)=va by rw [M9];exact JQ);clear hx hM xf JQ;simp only at x0 x1 x2 x3 x4;go_enter Tryz.func93,Tryz.ntmps93;go_upto_region 1 with fail;go_cut [4] from 5 to 19 (fun a4 wx=>a4=.bool (va==0)∧Below w.heap.size w wx)
 case first=>
  refine C7 A4 A4 ?_;repeat (go_big_quiet_step (fail))
  refine BD ?_;rintro _ ⟨y,rfl⟩;go_wp2_with fail;go_meet;case rel=>exact⟨rfl,y.h⟩
 case rest=>
  obtain⟨rfl,Am⟩:=hcut;obtain⟨W1,hW1⟩:∃W1:World,W1=wc:=⟨_,rfl⟩;subst hW1;have⟨BC,B1⟩:=AQ ((Am.block xb lx).trans CE.out) Am;obtain⟨y0,y1,y2,y3,y4,y5,y6,y7,y8,y9,y10,yf⟩:=D9 BC.out;have yf6:=yf 6;have lx1:=Ak BC.out;have w5:IntKind.i64.wrap (s.pc+1)=s.pc+1:=Dn _ A0;have w6:IntKind.i64.wrap (s.pc+1+im)=s.pc+1+im:=Dn _ A0;obtain⟨pc,O5⟩:=A8 s.pc;rw [O5] at y5 y10 w5 w6;have⟨Dw,LN⟩:=AQ O5 (show ∀W:World,Calls Tryz.prog 62 #[.agg #[.int .u8 22,.int .i64 a,.int .i64 b,.int .i64 c,.int .i64 im],.int .i64 pc] W fun e w'=>e=.returned (.tuple #[.int .i64 (pc+1+im),.bool true])∧Below W.heap.size W w' from fun W=>Y6 ⟨22,a,b,c,im⟩ pc W w5 w6);have CT:=A3 (show taken ⟨22,a,b,c,im⟩ s=(va==0) by unfold taken;simp only;rw [Co.out];cases h:decide (va=0)<;>simp_all);clear Am x0 x1 x2 x3 x4 x5 x9 yf O5 Oc;simp only at y0 y1 y2 y3 y4;cases hz:(va==0);case false=>
   have MS:=A3 (show taken ⟨22,a,b,c,im⟩ s=false by rw [CT.out];exact hz);go_upto_region 3 with fail;obtain⟨W2,hW2⟩:=A8 (W1.setCell ⟨xb,6,none⟩ (.bool false));have f2:Fr (· = xb) W1 W2:=hW2▸(Fr.refl (· = xb) _).set _ (.inl rfl);have GK:=A3 (show W2.heap[xb]?=some (.cells (Bo ⟨22,a,b,c,im⟩ pc false (-1) 0 sb (pc+1)) 141 (0,0)) by rw [←hW2,Cl W1 xb 6 _ _ _ BC.out,Dw.out];rfl);obtain⟨z0,z1,z2,z3,z4,z5,z6,z7,z8,z9,z10,zf⟩:=D9 GK.out;have QX:=zf 10;have lx2:=Ak GK.out;have F2:=A3 f2;rw [hW2];simp only at z0 z1 z2 z3 z4;clear hW2 f2 y0 y1 y2 y3 y4 y5 y6 y7 y8 y9 y10 yf6 zf;go_wp2_with fail;go_ret2;refine⟨rfl,⟨false,?_⟩,(Fr.of B1.out).trans F2.out⟩;rw [MS.out,A6 AR,Dw.out];exact GK.out
  case true=>
   have MS:=A3 (show taken ⟨22,a,b,c,im⟩ s=true by rw [CT.out];exact hz);go_upto_region 3 with fail;obtain⟨W2,hW2⟩:=A8 (W1.setCell ⟨xb,6,none⟩ (.bool true));have f2:Fr (· = xb) W1 W2:=hW2▸(Fr.refl (· = xb) _).set _ (.inl rfl);have GK:=A3 (show W2.heap[xb]?=some (.cells (Bo ⟨22,a,b,c,im⟩ pc true (-1) 0 sb (pc+1)) 141 (0,0)) by rw [←hW2,Cl W1 xb 6 _ _ _ BC.out,Dw.out];rfl);obtain⟨z0,z1,z2,z3,z4,z5,z6,z7,z8,z9,z10,zf⟩:=D9 GK.out;have QX:=zf 10;have lx2:=Ak GK.out;have F2:=A3 f2;rw [hW2];simp only at z0 z1 z2 z3 z4;clear hW2 f2 y0 y1 y2 y3 y4 y5 y6 y7 y8 y9 y10 yf6 zf;have U5:=A3 (show ∀W:World,Below W2.heap.size W2 W→Calls Tryz.prog 62 #[.agg #[.int .u8 22,.int .i64 a,.int .i64 b,.int .i64 c,.int .i64 im],.int .i64 pc] W fun e w'=>e=.returned (.tuple #[.int .i64 (pc+1+im),.bool true])∧Below W2.heap.size W2 w' from fun W hW=>(LN.out W).mono fun e w' ⟨h1,h2⟩=>⟨h1,hW.trans (h2.mono hW.size)⟩);go_upto_region 4 with fail;go_cut [2] from 48 to 63 (fun a2 wx=>a2=.nilFunc∧wx.heap[xb]?=some (.cells (Bo ⟨22,a,b,c,im⟩ pc true (-1) 0 sb (pc+1+im)) 141 (0,0))∧Fr (· = xb) W2 wx)
   case first=>
    go_region_held3 (fun w'=>(∀o,o<10→w'.cell? ⟨xb,o,none⟩=W2.cell? ⟨xb,o,none⟩)∧Fr (· = xb) W2 w') ((first|(with_reducible assumption)|exact Sn j5 lx2|exact S6 (Sn Mz lx2) _|exact S6 Mz _)) (first|(go_at_call 62;go_loud (refine (U5.out _ iM).mono ?_);go_loud (rintro e W3 ⟨rfl,hb3⟩);go_loud (have zf3:W3.frozen? ⟨xb,10,none⟩=false:=(hb3.frozen (p:=⟨xb,10,none⟩) lx2).trans QX);go_loud (have zc3:W3.cell? ⟨xb,10,none⟩=some (.int .i64 (pc+1)):=(hb3.cell (p:=⟨xb,10,none⟩) lx2).trans z10);go_loud (have lx3:xb<W3.heap.size:=F7 lx2 hb3.size)))
    all_goals
     go_wp2_with fail;go_meet;case rel=>exact⟨rfl,by rw [Cl W3 xb 10 _ _ _ ((hb3.block xb lx2).trans GK.out)];rfl,(Fr.of hb3).set _ (.inl rfl)⟩
   case rest=>
    obtain⟨rfl,k3,f3⟩:=hcut;go_wp2_with fail;go_ret2;refine⟨rfl,⟨true,?_⟩,(Fr.of B1.out).trans (F2.out.trans f3)⟩;rw [MS.out,A9 rfl,Dw.out];exact k3
theorem ar2 (xb sb:Nat) (im b c:Int) (a:Nat) (ha:a<16) (him : -131072≤im∧im≤131071) (s:St) (hpc:0≤s.pc∧s.pc≤1000000) (w:World)
  (hx:w.heap[xb]?=some (.cells (Bo ⟨23,a,b,c,im⟩ s.pc false (-1) 0 sb (s.pc+1)) 141 (0,0))) (hM:Bx w sb s) :
  Calls Tryz.prog 93 #[.pointer (some ⟨xb,0,none⟩)] w (V9 xb sb ⟨23,a,b,c,im⟩ s w):=by
 have⟨CE,Dj⟩:=AQ hx hM;obtain⟨x0,x1,x2,x3,x4,x5,-,-,-,x9,-,xf⟩:=D9 CE.out;have lx:=Ak CE.out;have lsb:=hM.lt;have Oc:=hM.A7 ha;have ga:(a:Int)<16:=by omega
 have ga2:decide ((16:Int)≤(a:Int))=false:=Ad A0;obtain⟨va,JQ⟩:=A8 (s.r.getD a 0);rw [JQ] at Oc;have Co:=A3 (show A7 s (a:Int)=va by rw [M9];exact JQ);clear hx hM xf JQ;simp only at x0 x1 x2 x3 x4;go_enter Tryz.func93,Tryz.ntmps93;go_upto_region 1 with fail;go_cut [4] from 5 to 19 (fun a4 wx=>a4=.bool (va==0)∧Below w.heap.size w wx)
 case first=>
  refine C7 A4 A4 ?_;repeat (go_big_quiet_step (fail))
  refine BD ?_;rintro _ ⟨y,rfl⟩;go_wp2_with fail;go_meet;case rel=>exact⟨rfl,y.h⟩
 case rest=>
  obtain⟨rfl,Am⟩:=hcut;obtain⟨W1,hW1⟩:∃W1:World,W1=wc:=⟨_,rfl⟩;subst hW1;have⟨BC,B1⟩:=AQ ((Am.block xb lx).trans CE.out) Am;obtain⟨y0,y1,y2,y3,y4,y5,y6,y7,y8,y9,y10,yf⟩:=D9 BC.out;have yf6:=yf 6;have lx1:=Ak BC.out;have w5:IntKind.i64.wrap (s.pc+1)=s.pc+1:=Dn _ A0;have w6:IntKind.i64.wrap (s.pc+1+im)=s.pc+1+im:=Dn _ A0;obtain⟨pc,O5⟩:=A8 s.pc;rw [O5] at y5 y10 w5 w6;have⟨Dw,LN⟩:=AQ O5 (show ∀W:World,Calls Tryz.prog 62 #[.agg #[.int .u8 23,.int .i64 a,.int .i64 b,.int .i64 c,.int .i64 im],.int .i64 pc] W fun e w'=>e=.returned (.tuple #[.int .i64 (pc+1+im),.bool true])∧Below W.heap.size W w' from fun W=>Y6 ⟨23,a,b,c,im⟩ pc W w5 w6);have CT:=A3 (show taken ⟨23,a,b,c,im⟩ s = !(va==0) by unfold taken;simp only;rw [Co.out];cases h:decide (va=0)<;>simp_all);clear Am x0 x1 x2 x3 x4 x5 x9 yf O5 Oc;simp only at y0 y1 y2 y3 y4;cases hz:(va==0);case false=>
   have MS:=A3 (show taken ⟨23,a,b,c,im⟩ s=true by rw [CT.out];rw [hz];rfl);go_upto_region 3 with fail;obtain⟨W2,hW2⟩:=A8 (W1.setCell ⟨xb,6,none⟩ (.bool true));have f2:Fr (· = xb) W1 W2:=hW2▸(Fr.refl (· = xb) _).set _ (.inl rfl);have GK:=A3 (show W2.heap[xb]?=some (.cells (Bo ⟨23,a,b,c,im⟩ pc true (-1) 0 sb (pc+1)) 141 (0,0)) by rw [←hW2,Cl W1 xb 6 _ _ _ BC.out,Dw.out];rfl);obtain⟨z0,z1,z2,z3,z4,z5,z6,z7,z8,z9,z10,zf⟩:=D9 GK.out;have QX:=zf 10;have lx2:=Ak GK.out;have F2:=A3 f2;rw [hW2];simp only at z0 z1 z2 z3 z4;clear hW2 f2 y0 y1 y2 y3 y4 y5 y6 y7 y8 y9 y10 yf6 zf;have U5:=A3 (show ∀W:World,Below W2.heap.size W2 W→Calls Tryz.prog 62 #[.agg #[.int .u8 23,.int .i64 a,.int .i64 b,.int .i64 c,.int .i64 im],.int .i64 pc] W fun e w'=>e=.returned (.tuple #[.int .i64 (pc+1+im),.bool true])∧Below W2.heap.size W2 w' from fun W hW=>(LN.out W).mono fun e w' ⟨h1,h2⟩=>⟨h1,hW.trans (h2.mono hW.size)⟩);go_upto_region 4 with fail;go_cut [2] from 48 to 63 (fun a2 wx=>a2=.nilFunc∧wx.heap[xb]?=some (.cells (Bo ⟨23,a,b,c,im⟩ pc true (-1) 0 sb (pc+1+im)) 141 (0,0))∧Fr (· = xb) W2 wx)
   case first=>
    go_region_held3 (fun w'=>(∀o,o<10→w'.cell? ⟨xb,o,none⟩=W2.cell? ⟨xb,o,none⟩)∧Fr (· = xb) W2 w') ((first|(with_reducible assumption)|exact Sn j5 lx2|exact S6 (Sn Mz lx2) _|exact S6 Mz _)) (first|(go_at_call 62;go_loud (refine (U5.out _ iM).mono ?_);go_loud (rintro e W3 ⟨rfl,hb3⟩);go_loud (have zf3:W3.frozen? ⟨xb,10,none⟩=false:=(hb3.frozen (p:=⟨xb,10,none⟩) lx2).trans QX);go_loud (have zc3:W3.cell? ⟨xb,10,none⟩=some (.int .i64 (pc+1)):=(hb3.cell (p:=⟨xb,10,none⟩) lx2).trans z10);go_loud (have lx3:xb<W3.heap.size:=F7 lx2 hb3.size)))
    all_goals
     go_wp2_with fail;go_meet;case rel=>exact⟨rfl,by rw [Cl W3 xb 10 _ _ _ ((hb3.block xb lx2).trans GK.out)];rfl,(Fr.of hb3).set _ (.inl rfl)⟩
   case rest=>
    obtain⟨rfl,k3,f3⟩:=hcut;go_wp2_with fail;go_ret2;refine⟨rfl,⟨true,?_⟩,(Fr.of B1.out).trans (F2.out.trans f3)⟩;rw [MS.out,A9 rfl,Dw.out];exact k3
  case true=>
   have MS:=A3 (show taken ⟨23,a,b,c,im⟩ s=false by rw [CT.out];rw [hz];rfl);go_upto_region 3 with fail;obtain⟨W2,hW2⟩:=A8 (W1.setCell ⟨xb,6,none⟩ (.bool false));have f2:Fr (· = xb) W1 W2:=hW2▸(Fr.refl (· = xb) _).set _ (.inl rfl);have GK:=A3 (show W2.heap[xb]?=some (.cells (Bo ⟨23,a,b,c,im⟩ pc false (-1) 0 sb (pc+1)) 141 (0,0)) by rw [←hW2,Cl W1 xb 6 _ _ _ BC.out,Dw.out];rfl);obtain⟨z0,z1,z2,z3,z4,z5,z6,z7,z8,z9,z10,zf⟩:=D9 GK.out;have QX:=zf 10;have lx2:=Ak GK.out;have F2:=A3 f2;rw [hW2];simp only at z0 z1 z2 z3 z4;clear hW2 f2 y0 y1 y2 y3 y4 y5 y6 y7 y8 y9 y10 yf6 zf;go_wp2_with fail;go_ret2;refine⟨rfl,⟨false,?_⟩,(Fr.of B1.out).trans F2.out⟩;rw [MS.out,A6 AR,Dw.out];exact GK.out
theorem as7 (xb sb:Nat) (im b c:Int) (a:Nat) (ha:a<16) (him : -131072≤im∧im≤131071) (s:St) (hpc:0≤s.pc∧s.pc≤1000000) (w:World)
  (hx:w.heap[xb]?=some (.cells (Bo ⟨24,a,b,c,im⟩ s.pc false (-1) 0 sb (s.pc+1)) 141 (0,0))) (hM:Bx w sb s) :
  Calls Tryz.prog 93 #[.pointer (some ⟨xb,0,none⟩)] w (V9 xb sb ⟨24,a,b,c,im⟩ s w):=by
 have⟨CE,Dj⟩:=AQ hx hM;obtain⟨x0,x1,x2,x3,x4,x5,-,-,-,x9,-,xf⟩:=D9 CE.out;have lx:=Ak CE.out;have lsb:=hM.lt;have Oc:=hM.A7 ha;have ga:(a:Int)<16:=by omega
 have ga2:decide ((16:Int)≤(a:Int))=false:=Ad A0;obtain⟨va,JQ⟩:=A8 (s.r.getD a 0);rw [JQ] at Oc;have Co:=A3 (show A7 s (a:Int)=va by rw [M9];exact JQ);clear hx hM xf JQ;simp only at x0 x1 x2 x3 x4;go_enter Tryz.func93,Tryz.ntmps93;go_upto_region 1 with fail;go_cut [4] from 5 to 19 (fun a4 wx=>a4=.bool (va==0)∧Below w.heap.size w wx)
 case first=>
  refine C7 A4 A4 ?_;repeat (go_big_quiet_step (fail))
  refine BD ?_;rintro _ ⟨y,rfl⟩;go_wp2_with fail;go_meet;case rel=>exact⟨rfl,y.h⟩
 case rest=>
  obtain⟨rfl,Am⟩:=hcut;obtain⟨W1,hW1⟩:∃W1:World,W1=wc:=⟨_,rfl⟩;subst hW1;have⟨BC,B1⟩:=AQ ((Am.block xb lx).trans CE.out) Am;obtain⟨y0,y1,y2,y3,y4,y5,y6,y7,y8,y9,y10,yf⟩:=D9 BC.out;have yf6:=yf 6;have lx1:=Ak BC.out;have w5:IntKind.i64.wrap (s.pc+1)=s.pc+1:=Dn _ A0;have w6:IntKind.i64.wrap (s.pc+1+im)=s.pc+1+im:=Dn _ A0;obtain⟨pc,O5⟩:=A8 s.pc;rw [O5] at y5 y10 w5 w6;have⟨Dw,LN⟩:=AQ O5 (show ∀W:World,Calls Tryz.prog 62 #[.agg #[.int .u8 24,.int .i64 a,.int .i64 b,.int .i64 c,.int .i64 im],.int .i64 pc] W fun e w'=>e=.returned (.tuple #[.int .i64 (pc+1+im),.bool true])∧Below W.heap.size W w' from fun W=>Y6 ⟨24,a,b,c,im⟩ pc W w5 w6);have CT:=A3 (show taken ⟨24,a,b,c,im⟩ s=true by unfold taken;simp only;rw [Co.out];simp);clear Am x0 x1 x2 x3 x4 x5 x9 yf O5 Oc;simp only at y0 y1 y2 y3 y4;cases hz:(va==0);case false=>
   have MS:=A3 (show taken ⟨24,a,b,c,im⟩ s=true by rw [CT.out]);go_upto_region 3 with fail;obtain⟨W2,hW2⟩:=A8 (W1.setCell ⟨xb,6,none⟩ (.bool true));have f2:Fr (· = xb) W1 W2:=hW2▸(Fr.refl (· = xb) _).set _ (.inl rfl);have GK:=A3 (show W2.heap[xb]?=some (.cells (Bo ⟨24,a,b,c,im⟩ pc true (-1) 0 sb (pc+1)) 141 (0,0)) by rw [←hW2,Cl W1 xb 6 _ _ _ BC.out,Dw.out];rfl);obtain⟨z0,z1,z2,z3,z4,z5,z6,z7,z8,z9,z10,zf⟩:=D9 GK.out;have QX:=zf 10;have lx2:=Ak GK.out;have F2:=A3 f2;rw [hW2];simp only at z0 z1 z2 z3 z4;clear hW2 f2 y0 y1 y2 y3 y4 y5 y6 y7 y8 y9 y10 yf6 zf;have U5:=A3 (show ∀W:World,Below W2.heap.size W2 W→Calls Tryz.prog 62 #[.agg #[.int .u8 24,.int .i64 a,.int .i64 b,.int .i64 c,.int .i64 im],.int .i64 pc] W fun e w'=>e=.returned (.tuple #[.int .i64 (pc+1+im),.bool true])∧Below W2.heap.size W2 w' from fun W hW=>(LN.out W).mono fun e w' ⟨h1,h2⟩=>⟨h1,hW.trans (h2.mono hW.size)⟩);go_upto_region 4 with fail;go_cut [2] from 48 to 63 (fun a2 wx=>a2=.nilFunc∧wx.heap[xb]?=some (.cells (Bo ⟨24,a,b,c,im⟩ pc true (-1) 0 sb (pc+1+im)) 141 (0,0))∧Fr (· = xb) W2 wx)
   case first=>
    go_region_held3 (fun w'=>(∀o,o<10→w'.cell? ⟨xb,o,none⟩=W2.cell? ⟨xb,o,none⟩)∧Fr (· = xb) W2 w') ((first|(with_reducible assumption)|exact Sn j5 lx2|exact S6 (Sn Mz lx2) _|exact S6 Mz _)) (first|(go_at_call 62;go_loud (refine (U5.out _ iM).mono ?_);go_loud (rintro e W3 ⟨rfl,hb3⟩);go_loud (have zf3:W3.frozen? ⟨xb,10,none⟩=false:=(hb3.frozen (p:=⟨xb,10,none⟩) lx2).trans QX);go_loud (have zc3:W3.cell? ⟨xb,10,none⟩=some (.int .i64 (pc+1)):=(hb3.cell (p:=⟨xb,10,none⟩) lx2).trans z10);go_loud (have lx3:xb<W3.heap.size:=F7 lx2 hb3.size)))
    all_goals
     go_wp2_with fail;go_meet;case rel=>exact⟨rfl,by rw [Cl W3 xb 10 _ _ _ ((hb3.block xb lx2).trans GK.out)];rfl,(Fr.of hb3).set _ (.inl rfl)⟩
   case rest=>
    obtain⟨rfl,k3,f3⟩:=hcut;go_wp2_with fail;go_ret2;refine⟨rfl,⟨true,?_⟩,(Fr.of B1.out).trans (F2.out.trans f3)⟩;rw [MS.out,A9 rfl,Dw.out];exact k3
  case true=>
   have MS:=A3 (show taken ⟨24,a,b,c,im⟩ s=true by rw [CT.out]);go_upto_region 3 with fail;obtain⟨W2,hW2⟩:=A8 (W1.setCell ⟨xb,6,none⟩ (.bool true));have f2:Fr (· = xb) W1 W2:=hW2▸(Fr.refl (· = xb) _).set _ (.inl rfl);have GK:=A3 (show W2.heap[xb]?=some (.cells (Bo ⟨24,a,b,c,im⟩ pc true (-1) 0 sb (pc+1)) 141 (0,0)) by rw [←hW2,Cl W1 xb 6 _ _ _ BC.out,Dw.out];rfl);obtain⟨z0,z1,z2,z3,z4,z5,z6,z7,z8,z9,z10,zf⟩:=D9 GK.out;have QX:=zf 10;have lx2:=Ak GK.out;have F2:=A3 f2;rw [hW2];simp only at z0 z1 z2 z3 z4;clear hW2 f2 y0 y1 y2 y3 y4 y5 y6 y7 y8 y9 y10 yf6 zf;have U5:=A3 (show ∀W:World,Below W2.heap.size W2 W→Calls Tryz.prog 62 #[.agg #[.int .u8 24,.int .i64 a,.int .i64 b,.int .i64 c,.int .i64 im],.int .i64 pc] W fun e w'=>e=.returned (.tuple #[.int .i64 (pc+1+im),.bool true])∧Below W2.heap.size W2 w' from fun W hW=>(LN.out W).mono fun e w' ⟨h1,h2⟩=>⟨h1,hW.trans (h2.mono hW.size)⟩);go_upto_region 4 with fail;go_cut [2] from 48 to 63 (fun a2 wx=>a2=.nilFunc∧wx.heap[xb]?=some (.cells (Bo ⟨24,a,b,c,im⟩ pc true (-1) 0 sb (pc+1+im)) 141 (0,0))∧Fr (· = xb) W2 wx)
   case first=>
    go_region_held3 (fun w'=>(∀o,o<10→w'.cell? ⟨xb,o,none⟩=W2.cell? ⟨xb,o,none⟩)∧Fr (· = xb) W2 w') ((first|(with_reducible assumption)|exact Sn j5 lx2|exact S6 (Sn Mz lx2) _|exact S6 Mz _)) (first|(go_at_call 62;go_loud (refine (U5.out _ iM).mono ?_);go_loud (rintro e W3 ⟨rfl,hb3⟩);go_loud (have zf3:W3.frozen? ⟨xb,10,none⟩=false:=(hb3.frozen (p:=⟨xb,10,none⟩) lx2).trans QX);go_loud (have zc3:W3.cell? ⟨xb,10,none⟩=some (.int .i64 (pc+1)):=(hb3.cell (p:=⟨xb,10,none⟩) lx2).trans z10);go_loud (have lx3:xb<W3.heap.size:=F7 lx2 hb3.size)))
    all_goals
     go_wp2_with fail;go_meet;case rel=>exact⟨rfl,by rw [Cl W3 xb 10 _ _ _ ((hb3.block xb lx2).trans GK.out)];rfl,(Fr.of hb3).set _ (.inl rfl)⟩
   case rest=>
    obtain⟨rfl,k3,f3⟩:=hcut;go_wp2_with fail;go_ret2;refine⟨rfl,⟨true,?_⟩,(Fr.of B1.out).trans (F2.out.trans f3)⟩;rw [MS.out,A9 rfl,Dw.out];exact k3
end
end Go.Proofs.YtlmgkipmfgijiaaGreatDoor
