/-
  What is proved here: parts lHoA.
-/
import Derived.Test.YtlmgkipmfgijiaaGreatDoorVa
import Derived.Test.YtlmgkipmfgijiaaGreatDoorVv
import Derived.Test.YtlmgkipmfgijiaaGreatDoorVu
import Derived.Test.YtlmgkipmfgijiaaGreatDoorVk
import Derived.Deep.WholeRow
import Derived.Deep.QuietTactic
import Derived.BigQuiet
namespace Go.Proofs.YtlmgkipmfgijiaaGreatDoor
set_option linter.unusedVariables false
set_option linter.unusedSimpArgs false
set_option maxRecDepth 100000
set_option maxHeartbeats 8000000
open Go.RowKit
section
theorem asr (w:World) (n:Nat):Below w.heap.size w (w.drewN n):=⟨rfl,rfl,rfl,AH _,fun _ _=>rfl⟩
theorem agK (x q:Int) (nb ib:Nat) (iv:Value) (il:List Int) (w0 W:World) (HI:Lb w0 iv il) (hl:il.length≤100) (hb:Below w0.heap.size w0 W) (hnb:w0.heap.size≤nb) (hq0:0≤q) (hq1:q≤1000000)
  (hn:W.heap[nb]?=some (.cells #[.int .i64 q] 3 (0,0))) (hi:W.cell? ⟨ib,0,none⟩=some iv) (hlt:ib<W.heap.size) (hne:nb≠ib) :
  Calls Tryz.prog 28 #[.int .i64 x,.pointer (some ⟨ib,0,none⟩),.pointer (some ⟨nb,0,none⟩)] W fun e w'=>(∃v,AL v∧e=.returned (.int .i32 v))∧Fr (· = nb) W w'∧w'.heap[nb]?=some (.cells #[.int .i64 (q+1)] 3 (0,0)):=by
 obtain⟨A,cap,rfl,h1,h2,h3⟩:=HI.at_;have VE:=A3 HI.wd;have ln:=Ak hn;have HN:=A3 hn;have HF:=A3 (show ∀n:Nat,Fr (· = nb) W ((W.drewN n).setCell ⟨nb,0,none⟩ (.int .i64 (q+1)))∧((W.drewN n).setCell ⟨nb,0,none⟩ (.int .i64 (q+1))).heap[nb]?=some (.cells #[.int .i64 (q+1)] 3 (0,0)) from fun n=>
  have b:=asr W n
  ⟨((Fr.refl (· = nb) W).trans (Fr.of b)).set _ (.inl rfl),by rw [Cl _ nb 0 _ _ _ ((b.block nb ln).trans HN.out)];rfl⟩)
 have wq:IntKind.i64.wrap (q+1)=q+1:=Dn _ A0;have nf:W.frozen? ⟨nb,0,none⟩=false:=by simp [World.frozen?,hn]
 by_cases hgt:0<il.length
 ·have d:(0:Int)<(il.length:Int):=by omega
  obtain⟨b,off,rfl,hbb,hc⟩:=h3 hgt;obtain⟨k,hk⟩:∃k:Nat,q.tmod (il.length:Int)=(k:Int):=⟨(q.tmod (il.length:Int)).toNat,by have:=Xu (il.length:Int) hq0;omega⟩;have DK:k<il.length:=by have:=Int.tmod_lt_of_pos q d;omega
  have n0:W.cell? ⟨nb,0,none⟩=some (.int .i64 q):=by simp [World.cell?,hn]
  have c0:W.cell? ⟨b,off+k,none⟩=some (.int .i32 (il.getD k 0)):=by rw [hb.cell (p:=⟨b,off+k,none⟩) hbb];exact hc k DK
  have lb:b<W.heap.size:=by have:=hb.size;omega
  have hv:AL (il.getD k 0):=l9 HI.wd k;obtain⟨v,Je⟩:=A8 (il.getD k 0);obtain⟨m,hm⟩:=A8 il.length;rw [Je] at c0 hv;rw [hm] at hi d hk DK h1;have dk1:(k:Int)<(m:Int):=by omega
  have dk2:decide ((m:Int)≤(k:Int))=false:=Ad A0;have dd:decide ((0:Int)<(m:Int))=true:=Ac d;have dz:(m:Int)≠0:=by omega
  have dn:decide (0<m)=true:=Ac A0;have nfn:∀n,(W.drewN n).frozen? ⟨nb,0,none⟩=false:=fun _=>nf;clear h3 hc hgt Je hb hnb HI hn;go_enter Tryz.func28,Tryz.ntmps28;go_upto_region 3 with fail;go_quiet (fail)
  go_wp2_with fail;go_ret;exact⟨⟨v,hv,rfl⟩,HF.out _⟩
 ·have d:decide ((0:Int)<(il.length:Int))=false:=Ad A0
  have n0:W.cell? ⟨nb,0,none⟩=some (.int .i64 q):=by simp [World.cell?,hn]
  have dn:decide (0<il.length)=false:=Ad A0;clear h3 hgt hb hnb HI hn;go_enter Tryz.func28,Tryz.ntmps28;go_wp2_with fail;go_ret;exact⟨⟨0,by unfold AL;omega,rfl⟩,HF.out 0⟩
def uM (nb:Nat) (q:Int) (W:World):Prop:=∃q',0≤q'∧q'≤q+1∧W.heap[nb]?=some (.cells #[.int .i64 q'] 3 (0,0))
theorem auR {w0 w:World} {nb ib:Nat} {q:Int} {iv:Value} {il:List Int} (HI:Lb w0 iv il) (hl:il.length≤100) (hb:Below w0.heap.size w0 w) (hnb:w0.heap.size≤nb) (hq0:0≤q) (hq1:q≤1000000)
  (hn:w.heap[nb]?=some (.cells #[.int .i64 q] 3 (0,0))) (hi:w.cell? ⟨ib,0,none⟩=some iv) (hlt:ib<w.heap.size) (hne:nb≠ib) :
  Port w (.func (.func 28) #[] #[.pointer (some ⟨ib,0,none⟩),.pointer (some ⟨nb,0,none⟩)]) (· = nb) (uM nb q):=by
 refine⟨fun k hk=>by have h9:k=nb:=hk;have:=Ak hn;omega,fun S W W' ⟨q',h1,h2,h3⟩ f hs=>⟨q',h1,h2,(f.block nb (Ak h3) (hs nb rfl)).trans h3⟩,.inr ⟨_,_,rfl,fun _ _=>by kernel_rfl,fun _=>by kernel_rfl,fun x W hW=>?_⟩⟩;refine (agK x q nb ib iv il w0 W HI hl (hb.trans (hW.mono hb.size)) hnb hq0 hq1 ((hW.block nb (Ak hn)).trans hn) ((hW.cell (p:=⟨ib,0,none⟩) hlt).trans hi) (F7 hlt hW.size) hne).mono fun e w' ⟨⟨v,h1,h2⟩,h3,h4⟩=>⟨v,h1,h2,h3,q+1,by omega,EJ _,h4⟩
structure MQ (X wr:World) (sb nb tb:Nat) (dv sv:Value) (tk:List Int) (i:Nat) (s:St) (ml ml2:List Int):Prop where
 j:DG wr sb s ml sv ml2
 d:s.d=dv
 bx:Below X.heap.size X wr
 n:∃q:Int,0≤q∧q≤(i:Int)∧wr.heap[nb]?=some (.cells #[.int .i64 q] 3 (0,0))
 t:wr.heap[tb]?=some (.cells (Aq tk).toArray 3 (0,0))
section
variable {X wr:World} {sb nb tb:Nat} {dv sv:Value} {tk:List Int} {i:Nat} {s:St} {ml ml2:List Int}
theorem MQ.later {w':World} (h:MQ X wr sb nb tb dv sv tk i s ml ml2) (b:Below wr.heap.size wr w'):MQ X w' sb nb tb dv sv tk i s ml ml2:=by
 obtain⟨q,q1,q2,q3⟩:=h.n;exact⟨h.j.later b,h.d,h.bx.trans (b.mono h.bx.size),⟨q,q1,q2,(b.block nb (Ak q3)).trans q3⟩,(b.block tb (Ak h.t)).trans h.t⟩
theorem MQ.step {W5:World} {s':St} {T4 fl:List Int} {I:Ins} {lk nx q:Int} (h:MQ X wr sb nb tb dv sv tk i s ml ml2) (hjb:∀k,Jb sb dv sv k→X.heap.size≤k∧k≠nb∧k≠tb) (hnb:X.heap.size≤nb) (hnm:nb≠tb)
  (q1:0≤q) (q2:q≤(i:Int)) (q3:wr.heap[nb]?=some (.cells #[.int .i64 q] 3 (0,0))) (hok:EM I lk s ml ml2 nx s' T4 fl) (hJ:DG W5 sb { s' with pc:=nx } T4 sv fl) (hf:Fr (fun k=>Jb sb s.d sv k∨k=nb) wr W5) (hor:Fr (Jb sb s.d sv) wr W5∨uM nb q W5) :
  MQ X W5 sb nb tb dv sv tk (i+1) { s' with pc:=nx } T4 fl:=by
 have hb:Below X.heap.size wr W5:=hf.below h.bx.size (fun k hk=>by
  rcases hk with hk|hk
  ·rw [h.d] at hk;exact (hjb k hk).1
  ·omega)
 refine⟨hJ,hok.dat.trans h.d,h.bx.trans hb,?_,(hf.block tb (Ak h.t) (fun hk=>?_)).trans h.t⟩
 ·rcases hor with h1|⟨q',h1,h2,h3⟩
  ·refine⟨q,q1,by omega,(h1.block nb (Ak q3) (fun hk=>?_)).trans q3⟩
   rw [h.d] at hk;exact (hjb nb hk).2.1 rfl
  ·exact⟨q',h1,by omega,h3⟩
 ·rcases hk with hk|hk
  ·rw [h.d] at hk
   exact (hjb tb hk).2.2 rfl
  ·exact hnm hk.symm
theorem aq0 (l:List Int) (k:Nat) (x:Int):(Aq l).toArray.setIfInBounds k (.int .i64 x)=(Aq (l.set k x)).toArray:=by
 simp [Aq,Tv]
theorem MQ.put (h:MQ X wr sb nb tb dv sv tk i s ml ml2) (hjb:∀k,Jb sb dv sv k→X.heap.size≤k∧k≠nb∧k≠tb) (hnm:nb≠tb) (htb:X.heap.size≤tb) (k:Nat) (x:Int):MQ X (wr.setCell ⟨tb,k,none⟩ (.int .i64 x)) sb nb tb dv sv (tk.set k x) i s ml ml2:=by
 have hf:Fr (· = tb) wr (wr.setCell ⟨tb,k,none⟩ (.int .i64 x)):=(Fr.refl _ _).set _ (.inl rfl);obtain⟨q,q1,q2,q3⟩:=h.n;refine⟨h.j.keep hf (fun q hq e=>?_),h.d,h.bx.trans (hf.below h.bx.size (fun q hq=>by have h9:q=tb:=hq;omega)),⟨q,q1,q2,(hf.block nb (Ak q3) hnm).trans q3⟩,?_⟩
 ·rw [h.d] at hq
  exact (hjb q hq).2.2 e
 ·rw [Cl wr tb k _ _ _ h.t,aq0]
theorem MQ.at_ (h:MQ X wr sb nb tb dv sv tk i s ml ml2) {k:Nat} (hk:k<tk.length):wr.cell? ⟨tb,k,none⟩=some (.int .i64 (tk.getD k 0))∧wr.frozen? ⟨tb,k,none⟩=false:=by
 constructor
 ·simp [World.cell?,h.t,Aq,List.getD,Ab hk]
 ·simp [World.frozen?,h.t]
end
theorem zT {n:Nat} {cd:Nat→Int} {G:List AU} (hw:∀i,i<n→0≤cd i∧cd i<4294967296) (hl:∀x∈G,0≤x.lo) (h:Mx n cd G):∀b,b<G.length→∀z∈Cf cd G b,z.AD≤131071:=by
 intro k hk i hi;unfold Cf codeFrom at hi;obtain⟨j,hj,rfl⟩:=C5.1 hi;have hj:=Gp.1 hj;have e:G.getD k ⟨0,0,[]⟩=G[k]:=by simp [List.getD,Ab hk]
 rw [e] at hj ⊢;have h0:=hl _ (CQ hk);obtain⟨a,ha⟩:∃a:Nat,(G[k]).lo+(j:Int)=(a:Int):=⟨((G[k]).lo+(j:Int)).toNat,by omega⟩;rw [ha];have h1:=h _ (CQ hk) a A0 A0;obtain⟨q,hq,_⟩:=UU (hw a h1.1).1 h1.2;have h2:=hq.AD;have h3:=cz q hq.lt;unfold AK;rw [Cu];omega
theorem aqH (w:World):(w.alloc (.cells #[] 21)).ownsRow w.heap.size 21 1 (.slice (some ⟨w.heap.size,0,none⟩) 0 0) 0 []:=
 ⟨by simp,.inr ⟨w.heap.size,0,_,rfl,AH _,AY w _,AH _,by unfold maxLen;omega,by simp,by simp⟩⟩
theorem aal (n:Nat):madeCells (Value.int .i64 0).cells (n*1)=(Aq (List.replicate n 0)).toArray:=by
 rw [N6];apply Array.ext
 ·simp [madeCells,Aq]
 ·intro i h1 h2
  simp [madeCells,Value.cells,Nat.mod_one,Aq]
theorem zZ {w:World} {ops:Array Oper} {rest:List Oper} {o:Oper} {a:Act} {Q:Exit→Act→World→Prop} (hgd:o.guard=none) (s x:Operand)
  (ho:o.op=.call { callee:=.builtin .append,args:=#[s,x],argTypes:=#[79,79] }) (base:Nat) (v:Value) (hs:a.eval s=v) (hown:w.ownsRow base 21 1 v 0 [])
  (u:Value) (l:List Int) (hx:a.eval x=u) (hsrc:Lb w u l) (hkn:l.length≤5000) (hbase:base≤w.heap.size)
  (h:∀v' w',w'.ownsRow base 21 1 v' l.length (F0 l)→w.grownBy w' v.ownBlock→wpList Tryz.prog ops Q rest (a.put o.dst v') w'):wpList Tryz.prog ops Q (o :: rest) a w:=by
 obtain⟨iU,hiU,hU0,hU1,I8⟩:=Dp rS;obtain⟨A,cap,rfl,h1,h2,hcd⟩:=hsrc.at_;by_cases hn:l.length=0
 ·obtain⟨bs,c,rfl,hc⟩:∃bs c,v=.slice bs 0 c∧0≤c:=by
   rcases hown.2 with⟨h3,h4⟩|⟨g,cap',cur,h3,_,_,h4,_⟩
   ·exact⟨none,0,by rw [h3],by omega⟩
   ·exact⟨_,cap',h3,h4⟩
  rw [hn] at hx;refine yq hgd s x 79 ho 21 iU Xl hiU bs 0 c hc hs A cap hx ?_;exact h _ w (by rw [hn,List.eq_nil_of_length_eq_zero hn];exact hown) (World.grownBy.refl w _)
 ·obtain⟨cb,Qa,rfl,hcb,hcc⟩:=hcd A0
  refine Lx w hgd s x 79 ho base 21 iU (.int .i32 0) 1 4 Xl hiU hU0 hU1 I8 rfl AP v 0 [] hs hown ⟨cb,Qa,none⟩ l.length cap (F0 l) hx AR (fun j q hq=>?_) (fun u hu=>by obtain⟨y,_,rfl⟩:=C5.1 hu;rfl) CJ A0 hbase (fun v' w' h3 h4 _ _=>h v' w' (by simpa using h3) h4);have hj:j<l.length:=by have:=(Bc.1 hq).1;simpa using this
  rw [apM,hcc j hj,← hq];simp [List.getD,Ab hj]
end
end Go.Proofs.YtlmgkipmfgijiaaGreatDoor
