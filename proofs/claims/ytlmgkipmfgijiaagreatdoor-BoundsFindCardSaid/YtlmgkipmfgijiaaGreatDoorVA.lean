/-
  What is proved here: parts lFdP.
-/
import Derived.Test.YtlmgkipmfgijiaaGreatDoorVa
import Derived.Test.YtlmgkipmfgijiaaGreatDoorVv
import Derived.Test.YtlmgkipmfgijiaaGreatDoorVt
import Derived.BigRegion
import Derived.BigQuiet
import Derived.Deep.RegionHeld3
namespace Go.Proofs.YtlmgkipmfgijiaaGreatDoor
set_option linter.unusedVariables false
set_option linter.unusedSimpArgs false
set_option maxRecDepth 100000
set_option maxHeartbeats 8000000
open Go.RowKit
theorem ajB {P:Program} {w:World} {ops:Array Oper} {rest:List Oper} {o:Oper} {a:Act} {Q:Exit→Act→World→Prop} (hgd:o.guard=none) (s x:Operand) (t:TypeId)
  (ho:o.op=.call { callee:=.builtin .append,args:=#[s,x],argTypes:=#[t,t] })
  (e:TypeId) (i:TypeInfo) (ht:P.underlying t=some (.slice e)) (hi:P.info? e=some i)
  (base:Option Addr) (m c:Nat) (hm:m≤c) (hs:a.eval s=.slice base m c) (A:Option Addr) (c':Nat) (hx:a.eval x=.slice A 0 c')
  (h:wpList P ops Q rest (a.put o.dst (.slice base m c)) w):wpList P ops Q (o :: rest) a w:=by
 refine wpList_plain hgd fun K hK=>?_;have hsrc:Src P i.size t (.slice A 0 c') 0 [] w:=by
  cases A with
  | none=>exact Src.ofNil _ ht c'
  | some ad=>exact Src.ofSlice _ ht ad 0 c' [] AO (fun j u hu=>by simp at hu) (fun u hu=>by simp at hu)
 have hrun:=run_append_nothing (P:=P) w t t o.type e i ht hi base m c hm _ hsrc;unfold Oper.wp;simp [execOp,ho,resolve,invoke,builtin,hs,hx,hrun,Result.andThen];exact hK _ _ h
theorem arR (av bv:Value) (L:List Int) (w:World) (HA:Ints w av L) (HB:Ints w bv L) :
  Calls Tryz.prog 21 #[av,bv] w fun e w'=>e=.returned (.bool true)∧Below w.heap.size w w':=by
 obtain⟨A,ac,rfl,ha1,ha2⟩:=HA.slice;obtain⟨B,bc,rfl,hb1,hb2⟩:=HB.slice;have HAH:=A3 HA;have Mb:=A3 HB;obtain⟨l,hL⟩:=AA L.length;have Ik:=A3 hL;have dlm:((l:Int) != (l:Int))=false:=by simp
 rw [hL] at ha1 hb1 ⊢;clear HA HB;go_enter Tryz.func21,Tryz.ntmps21;go_wp2_with fail;go_loopw [5] (fun a5 wr=>∃j:Nat,j≤l∧a5=.int .i64 (j:Int)∧Below w.heap.size w wr) (fun a5 _=>l - (intOf a5).toNat);case atStart=>exact⟨0,by omega,rfl,AP _ _⟩
 case round=>
  obtain⟨j,hj,rfl,hb⟩:=hrel;have HB:=A3 hb;clear hb;by_cases hlt:j<l
  ·have dl:decide ((j:Int)<(l:Int))=true:=AR A0
   have dj:(j:Int)<(l:Int):=by omega
   obtain⟨s,b1,o1,hs,rfl,h1,c1⟩:=Ints.at_ HAH.out HB.out (j:=j) (by rw [Ik.out];exact hlt);obtain⟨s2,b2,o2,hs2,rfl,h2,c2⟩:=Ints.at_ Mb.out HB.out (j:=j) (by rw [Ik.out];exact hlt);rw [hs] at hs2;cases hs2;have l1:b1<wr.heap.size:=by have:=HB.out.size;omega
   have l2:b2<wr.heap.size:=by have:=HB.out.size;omega
   have dne:(s != s)=false:=by simp
   clear hs;go_wp2_with fail;refine Cg A6 A6 ?_;repeat (go_big_quiet_step (fail))
   refine Ba ?_;rintro _ ⟨x1,rfl⟩;go_wp2_with fail;go_roundw;case rel=>exact⟨j+1,by omega,by go_num,HB.out.trans (x1.h.mono HB.out.size)⟩
   case measure=>exact Aa
  ·obtain rfl:l=j:=by omega
   have dl:decide ((l:Int)<(l:Int))=false:=by simp
   go_wp2_with fail;go_ret;exact⟨rfl,HB.out⟩
theorem arn {w:World} {ops:Array Oper} {rest:List Oper} {o:Oper} {a:Act} {Q:Exit→Act→World→Prop} (hgd:o.guard=none) (s x:Operand)
  (ho:o.op=.call { callee:=.builtin .append,args:=#[s,x],argTypes:=#[22,22] }) (base:Nat) (v:Value) (k:Nat) (xs:List Value) (hs:a.eval s=v) (hown:w.ownsRow base 70 1 v k xs)
  (u:Value) (n:Nat) (cd:Nat→Int) (hx:a.eval x=u) (hsrc:Mr w u n cd) (hkn:k+n≤5000) (hbase:base≤w.heap.size)
  (h:∀v' w',w'.ownsRow base 70 1 v' (k+n) (xs++Jl ((List.range n).map cd))→w.grownBy w' v.ownBlock→wpList Tryz.prog ops Q rest (a.put o.dst v') w'):wpList Tryz.prog ops Q (o :: rest) a w:=by
 obtain⟨iU,hiU,hU0,hU1,Hu⟩:=D5 tX;obtain⟨A,cap,rfl,h1,h2,hcd⟩:=hsrc.at_;by_cases hn:n=0
 ·subst hn
  obtain⟨bs,c,rfl,hc⟩:∃bs c,v=.slice bs k c∧k≤c:=by
   rcases hown.2 with⟨h3,h4⟩|⟨g,cap',cur,h3,_,_,h4,_⟩
   ·exact⟨none,0,by rw [h3,h4],by omega⟩
   ·exact⟨_,cap',h3,h4⟩
  refine ajB hgd s x 22 ho 70 iU lf hiU bs k c hc hs A cap hx ?_;exact h _ w (by simpa [Jl] using hown) (World.grownBy.refl w _)
 ·obtain⟨cb,NR,rfl,hcb,hcc⟩:=hcd A0
  refine Kf w hgd s x 22 ho base 70 iU (.int .u32 0) 1 4 lf hiU hU0 hU1 Hu rfl AK v k xs hs hown ⟨cb,NR,none⟩ n cap (Jl ((List.range n).map cd)) hx (by simp [Jl]) (fun j q hq=>?_) (yX _) Bc A0 hbase (fun v' w' h3 h4 _ _=>h v' w' h3 h4);have hj:j<n:=by have:=(Bl.1 hq).1;simpa [Jl] using this
  rw [adF,hcc j hj,← hq];simp [Jl,Ev hj]
theorem XI.below {w w':World} {cd:Nat→Int} {G:List AV} {P:List (List Int)} {bv pv lv rv iv dv:Value} {D:List Int} {L:List Lp} {s:AS} (h:XI w cd G P bv pv lv rv iv dv D L s) (hb:Below w.heap.size w w'):XI w' cd G P bv pv lv rv iv dv D L s:=
 ⟨h.Ou.below hb,h.lls.below hb,h.Si.below hb,h.tree,h.loops,h.ends,h.Mv.below hb,h.Af,h.l1,h.l2,h.dvs⟩
theorem arH (cv ev:Value) (sh lk:Int) {n:Nat} {cd:Nat→Int} {AU:List CP} {k:Nat} {en:CP} {G:List AV} {P:List (List Int)} {w:World} (T:C8 w) (HW:Words w cv n cd) (hn:n≤1000) (g:Cv n cd AU sh lk k en G P) {bv pv lv rv iv dv:Value} {D:List Int} {L:List Lp} {s:AS} (hA:XI w cd G P bv pv lv rv iv dv D L s) :
  Calls Tryz.prog 20 #[.agg #[cv,ev,.int .i64 sh,.int .i64 lk],.agg #[bv,pv],lv,.agg #[rv,iv,dv]] w fun e w'=>wF w' (IL cd G s.reach L []) e∧Below w.heap.size w w':=by
 have bg:=g.len;have Hs:=hA.loops.len g.val;exact (oC cv ev bv pv sh lk n cd G P w T HW hA.Ou hA.lls A0 (fun x hx=>by have:=g.nx2 x hx;omega) L lv hA.Si A0 (fun x hx=>by have:=hA.loops.uT A0 g.nx2 x hx;omega) s.reach rv iv dv hA.Mv G.length (by obtain⟨A,cap,h1,h2,h3⟩:=hA.Af;rw [hA.l2] at h1 h2;exact⟨A,cap,h1,h2,h3⟩) (fun _=>g.Zo A0)).mono fun e w' ⟨h,hb⟩=>⟨h.yes ⟨g.val,g.Na,hA.l1,rfl,g.ref A0 hA.loops⟩,hb⟩
end Go.Proofs.YtlmgkipmfgijiaaGreatDoor
