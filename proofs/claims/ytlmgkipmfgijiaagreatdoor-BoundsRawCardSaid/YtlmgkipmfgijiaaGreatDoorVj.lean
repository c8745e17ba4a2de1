/-
  What is proved here: parts aAn2, aBf, aAm, aBe, aDm.
-/
import Derived.Test.YtlmgkipmfgijiaaGreatDoorVa
import Derived.Test.YtlmgkipmfgijiaaGreatDoorVi
import Derived.Test.YtlmgkipmfgijiaaGreatDoorVd
import Derived.Test.YtlmgkipmfgijiaaGreatDoorVb
import Derived.Laws.MakeOwn
namespace Go.Proofs.YtlmgkipmfgijiaaGreatDoor
set_option linter.unusedVariables false
set_option linter.unusedSimpArgs false
set_option maxRecDepth 100000
set_option maxHeartbeats 8000000
open Go.RowKit
section
theorem nM (b:Nat) (T:TypeId):∀(vs:List Value) (o:Nat) (w:World) (xs:List Value),w.heap[b]?=some (.cells xs.toArray T (0,0))→o+vs.length≤xs.length→(w.setCells b o vs).heap[b]?=some (.cells (xs.take o++vs++xs.drop (o+vs.length)).toArray T (0,0))
 | [],o,w,xs,h,hl=>by simpa [World.setCells] using h
 | v :: vs,o,w,xs,h,hl=>by
  rw [World.setCells];simp only [GD] at hl;have h1:(w.setCell ⟨b,o,none⟩ v).heap[b]?=some (.cells (xs.set o v).toArray T (0,0)):=by
   rw [Ej w b o _ T _ h];simp
  rw [nM b T vs (o+1) _ _ h1 Cl];congr 2
  have e1:(xs.set o v).take (o+1)=xs.take o++[v]:=by
   apply JX;intro i;rw [eu,IY];by_cases hi:i<o
   ·rw [AE A0,A9 A0,JJ mR,eu,AE hi]
   ·by_cases hi2:i=o
    ·subst hi2
     rw [AE A0,AE rfl,AE A0,J4 mR,RM,Nat.min_eq_left A0];simp
    ·rw [A9 A0,E0]
     rw [FO,RM];simp;omega
  have e2:(xs.set o v).drop (o+1+vs.length)=xs.drop (o+(v :: vs).length):=by
   apply JX;intro i;rw [mW,mW,IY,A9 A0,GD];congr 1
   omega
  rw [e1,e2];simp
theorem heap_setCells_other (b:Nat):∀(vs:List Value) (o:Nat) (w:World) (k:Nat),k≠b→(w.setCells b o vs).heap[k]?=w.heap[k]?
 | [],o,w,k,_=>rfl
 | v :: vs,o,w,k,h=>by
  rw [World.setCells,heap_setCells_other b vs (o+1) _ k h,BL _ _ _ _ (by show k≠b;exact h)]
theorem jT (b:Nat):∀(vs:List Value) (o:Nat) (w:World),(w.setCells b o vs).os=w.os∧(w.setCells b o vs).tape=w.tape∧(w.setCells b o vs).output=w.output∧(w.setCells b o vs).heap.size=w.heap.size
 | [],o,w=>⟨rfl,rfl,rfl,rfl⟩
 | v :: vs,o,w=>by
  rw [World.setCells];obtain⟨h1,h2,h3,h4⟩:=jT b vs (o+1) (w.setCell ⟨b,o,none⟩ v);exact⟨h1,h2,h3,h4.trans AO⟩
theorem Fr.setCells {S:Nat→Prop} {w w':World} {b o:Nat} (h:Fr S w w') (vs:List Value) (hp:S b∨w.heap.size≤b):Fr S w (w'.setCells b o vs):=by
 obtain⟨h1,h2,h3,h4⟩:=jT b vs o w';refine⟨h1.trans h.os,h2.trans h.tape,h3.trans h.output,by rw [h4];exact h.size,fun k hk hn=>?_⟩;rw [heap_setCells_other b vs o w' k (by rintro rfl;rcases hp with hp|hp;exact hn hp;omega)];exact h.block k hk hn
theorem tM {l:List Bool} {t:Nat} (v:Bool):(l.map Value.bool).toArray.setIfInBounds t (.bool v)=((l.set t v).map Value.bool).toArray:=by
 simp [fe]
theorem xR {l:List Int} {t:Nat} (v:Int):(l.map (Value.int .i64)).toArray.setIfInBounds t (.int .i64 v)=((l.set t v).map (Value.int .i64)).toArray:=by
 simp [fe]
section
variable {V w w':World} {ab cb rb ib pb:Nat} {bv pv:Value} {G:List AV} {B:List AB} {val:Nat→Value} {s:AS}
theorem An.there (h:An V w ab cb rb ib pb bv pv G B val s) {t:Nat} (ht:t<B.length):w.there ib (t*32) 32:=fun j hj=>by
 have hl:t<s.Af.length:=by rw [h.Ez.l2];exact ht
 have h1:=Va h.Yj;constructor
 ·have:t*32+j<(JQ s.Af).length:=by omega
  simp [World.cell?,h.Gh,Aj this]
 ·simp [World.frozen?,h.Gh]
theorem x7 (h:∀r∈s.Af,r.length=16) {t:Nat} (ht:t<s.Af.length) {r:RG} (hr:r.length=16) (hi:w.heap[ib]?=some (.cells (JQ s.Af).toArray 174 (0,0))) :
  (w.setCells ib (t*32) (AD r)).heap[ib]?=some (.cells (JQ (s.Af.set t r)).toArray 174 (0,0)):=by
 have h1:=Va h;have hc:(AD r).length=32:=by rw [CZ,hr]
 rw [nM ib _ (AD r) (t*32) w _ hi A0,hc,aoS h ht hr]
theorem An.pW (h:An V w ab cb rb ib pb bv pv G B val s):s.Af.length=B.length:=h.Ez.l2
theorem An.first (h:An V w ab cb rb ib pb bv pv G B val s) (hf:Below w.heap.size w w') {t:Nat} (ht:t<B.length) {r:RG} (hr:R16 r) (hn:s.reach.getD t false=false) :
  An V ((w'.setCell ⟨rb,t,none⟩ (.bool true)).setCells ib (t*32) (AD r)) ab cb rb ib pb bv pv G B val (F7 s t (some r)).1∧Fr (OZ rb ib pb) w ((w'.setCell ⟨rb,t,none⟩ (.bool true)).setCells ib (t*32) (AD r)):=by
 obtain⟨-,-,-,-,-,-,n7,n8,n9⟩:=h.ne;have h':=h.below hf;have F:Fr (OZ rb ib pb) w' ((w'.setCell ⟨rb,t,none⟩ (.bool true)).setCells ib (t*32) (AD r)):=((Fr.refl _ _).set _ (.inl (.inl rfl))).setCells _ (.inl (.inr (.inl rfl)));have ha:=(dY h.Ez ht (some r) (fun _ e=>by cases e;exact hr)).1;unfold F7 at ha ⊢;simp only [AE hn] at ha ⊢;refine⟨h'.to F ?_ ?_ ?_ ha,(Fr.of hf).trans F⟩
 ·rw [heap_setCells_other _ _ _ _ _ n7,Ej _ _ _ _ _ _ h'.Dn,tM]
 ·exact x7 h'.Yj (by rw [h'.pW];exact ht) hr.len (by rw [BL _ _ _ _ (by show ib≠rb;exact n7.symm)];exact h'.Gh)
 ·rw [heap_setCells_other _ _ _ _ _ n9.symm,BL _ _ _ _ (by show pb≠rb;exact n8.symm)];exact h'.Bk
theorem An.again (h:An V w ab cb rb ib pb bv pv G B val s) (hf:Below w.heap.size w w') {t:Nat} (ht:t<B.length) {r:RG} (hr:R16 r) (hn:s.reach.getD t false=true) (hne:Cb (s.Af.getD t []) r≠s.Af.getD t []) :
  An V ((w'.setCells ib (t*32) (AD (if 2≤s.rep.getD t 0 then I0 (s.Af.getD t []) (Cb (s.Af.getD t []) r) else Cb (s.Af.getD t []) r))).setCell ⟨pb,t,none⟩ (.int .i64 (s.rep.getD t 0+1))) ab cb rb ib pb bv pv G B val (F7 s t (some r)).1∧Fr (OZ rb ib pb) w ((w'.setCells ib (t*32) (AD (if 2≤s.rep.getD t 0 then I0 (s.Af.getD t []) (Cb (s.Af.getD t []) r) else Cb (s.Af.getD t []) r))).setCell ⟨pb,t,none⟩ (.int .i64 (s.rep.getD t 0+1))):=by
 obtain⟨-,-,-,-,-,-,n7,n8,n9⟩:=h.ne;have h':=h.below hf;have hg:=h.Ez.get ht;have hj:=hg.join hr;have hnew:R16 (if 2≤s.rep.getD t 0 then I0 (s.Af.getD t []) (Cb (s.Af.getD t []) r) else Cb (s.Af.getD t []) r):=by split;exact hg.XD hj;exact hj
 have F:Fr (OZ rb ib pb) w' ((w'.setCells ib (t*32) (AD (if 2≤s.rep.getD t 0 then I0 (s.Af.getD t []) (Cb (s.Af.getD t []) r) else Cb (s.Af.getD t []) r))).setCell ⟨pb,t,none⟩ (.int .i64 (s.rep.getD t 0+1))):=((Fr.refl _ _).setCells _ (.inl (.inr (.inl rfl)))).set _ (.inl (.inr (.inr rfl)));have ha:=(dY h.Ez ht (some r) (fun _ e=>by cases e;exact hr)).1;unfold F7 at ha ⊢;simp only [A9 (show ¬s.reach.getD t false=false by rw [hn];simp),A9 hne] at ha ⊢;refine⟨h'.to F ?_ ?_ ?_ ha,(Fr.of hf).trans F⟩
 ·rw [BL _ _ _ _ (by show rb≠pb;exact n8),heap_setCells_other _ _ _ _ _ n7];exact h'.Dn
 ·rw [BL _ _ _ _ (by show ib≠pb;exact n9)]
  exact x7 h'.Yj (by rw [h'.pW];exact ht) hnew.len h'.Gh
 ·rw [Ej _ _ _ _ _ _ ((heap_setCells_other _ _ _ _ _ n9.symm).trans h'.Bk),xR]
end
end
theorem adg (cv ev:Value) (sh lk:Int) (n:Nat) (cd:Nat→Int) (pc:Nat) (hpc:pc<n) (hd:(BB (cd pc)).2=0) (w:World) (T:C8 w) (HW:Words w cv n cd) :
  Calls Tryz.prog 85 #[.agg #[cv,ev,.int .i64 sh,.int .i64 lk],.int .i64 (pc:Int)] w fun e w'=>e=.returned (.tuple #[(Ak cd (pc:Int)).val,.bool true])∧Below w.heap.size w w':=by
 obtain⟨A,cap,rfl,hc1,hc2,hc3⟩:=HW.at_;obtain⟨b,off,rfl,hb,hc⟩:=hc3 A0;have hwd:=HW.wd pc hpc;have hcell:=hc pc hpc;obtain⟨x,hx⟩:=AA (cd pc);rw [hx] at hwd hcell hd;obtain⟨V,hV,k0,k1,bV,sV⟩:∃V,(w.alloc (.cells #[.slice (some ⟨b,off,none⟩) n cap,ev,.int .i64 sh,.int .i64 lk] 25)).alloc (.cells #[.int .u8 0,.int .i64 0,.int .i64 0,.int .i64 0,.int .i64 0] 67)=V∧V.heap[w.heap.size]?=some (.cells #[.slice (some ⟨b,off,none⟩) n cap,ev,.int .i64 sh,.int .i64 lk] 25 (0,0))∧V.heap[w.heap.size+1]?=some (.cells #[.int .u8 0,.int .i64 0,.int .i64 0,.int .i64 0,.int .i64 0] 67 (0,0))∧Below w.heap.size w V∧V.heap.size=w.heap.size+1+1:=by
  refine⟨_,rfl,?_,E4 _ _ AO,((AP _ _).alloc (AH _) _).alloc AO _,by simp⟩;rw [Bb _ _ AO];exact Ai _ _
 have v0:V.cell? ⟨w.heap.size,0,none⟩=some (.slice (some ⟨b,off,none⟩) n cap):=by simp [World.cell?,k0]
 have vx:V.cell? ⟨b,off+pc,none⟩=some (.int .u32 x):=(bV.cell (p:=⟨b,off+pc,none⟩) hb).trans hcell;have dp:decide ((pc:Int)<0)=false:=Aq A0;have dn2:(pc:Int)<(n:Int):=by omega
 obtain⟨op,a,b',c,im,hi⟩:∃op a b c im,(BB x).1=⟨op,a,b,c,im⟩:=⟨_,_,_,_,_,rfl⟩;have HD:=A3 (show Calls Tryz.prog 22 #[.int .u32 x] V fun e w'=>e=.returned (.tuple #[.agg #[.int .u8 op,.int .i64 a,.int .i64 b',.int .i64 c,.int .i64 im],.int .i64 0])∧Below V.heap.size V w' from by
  have:=cN x hwd.1 hwd.2 V (T.below bV);rw [hd,hi] at this
  exact this)
 have⟨HI,BV,K1,SV⟩:=Bz (show Ak cd (pc:Int)=⟨op,a,b',c,im⟩ by unfold Ak;rw [show ((pc:Int)).toNat=pc by omega,hx];exact hi) bV k1 sV;clear hc hc3 hx hd hi bV k0 k1 sV hcell HW hc2 hb;go_enter Tryz.func85,Tryz.ntmps85;go_upto_region 4 with (first|(go_at_call 22;refine HD.out.mono ?_;rintro e w1 ⟨rfl,hb1⟩));obtain⟨Y,hY⟩:=AA (w1.alloc (.cells #[.int .u8 op,.int .i64 a,.int .i64 b',.int .i64 c,.int .i64 im] 67));rw [hY];have bY:Below w1.heap.size w1 Y:=hY▸(AP _ _).alloc (AH _) _;obtain⟨z0,z1,z2,z3,z4,lY⟩:=Fy (show Y.heap[w1.heap.size]?=some (.cells #[.int .u8 op,.int .i64 a,.int .i64 b',.int .i64 c,.int .i64 im] 67 (0,0)) from hY▸Ai _ _);have bVY:Below V.heap.size V Y:=hb1.trans (bY.mono hb1.size);have KY:Y.heap[w.heap.size+1]?=some (.cells #[.int .u8 0,.int .i64 0,.int .i64 0,.int .i64 0,.int .i64 0] 67 (0,0)):=(bVY.block _ YS).trans K1.out;have⟨KYH,BY⟩:=AL KY (BV.out.trans (bVY.mono BV.out.size));clear hY bY bVY KY hb1 hV vx v0;go_wp2_with (refine Bp rfl 67 (.tmp 4) (.tmp 27) rfl (w.heap.size+1) #[.int .u8 op,.int .i64 a,.int .i64 b',.int .i64 c,.int .i64 im] rfl rfl 67 _ KYH.out A6 rfl BS ?_);rw [HI.out];refine Al (results_cell_tmp (P:=Tryz.prog) Tryz.results85 _ _ (w.heap.size+1) [.int .u8 op,.int .i64 a,.int .i64 b',.int .i64 c,.int .i64 im] _ rfl (FM (IJ _ _ _ _ _ _ KYH.out)) Tryz.underlying67 rfl A6) rfl ⟨rfl,Bt BY.out A0 _⟩
section
theorem aT {z:Array Value} {m k:Nat} (hk:z.size=k) (h0:0<k) {xs:List Value} (hl:xs.length=m*k) (hx:∀i j,i<m→j<k→xs[i*k+j]?=z[j]?):madeCells z (m*k)=xs.toArray:=by
 apply Array.ext
 ·simp [madeCells,hl]
 ·intro q h1 h2
  have hq:q<m*k:=by simpa [hl] using h2
  have h3:q / k<m:=(Nat.div_lt_iff_lt_mul h0).2 hq;have h4:q % k<k:=Nat.mod_lt _ h0;have e:q / k*k+q % k=q:=by rw [Nat.mul_comm];exact Nat.div_add_mod q k
  have h5:=hx (q / k) (q % k) h3 h4;rw [e] at h5;have h6:xs[q]?=some xs[q]:=Aj (by simpa using h2);rw [h6] at h5;simp only [madeCells,Array.getElem_map,Array.getElem_range,AX,hk];simp only [getElem!_def,← h5]
theorem rS (n:Nat):madeCells #[.bool false] (n*1)=((List.replicate n false).map Value.bool).toArray:=
 aT (k:=1) rfl AK AO (fun i j hi hj=>by
  have e:j=0:=by omega
  subst e
  simp [hi])
theorem aqf (n:Nat):madeCells #[.int .i64 0] (n*1)=((List.replicate n (0:Int)).map (Value.int .i64)).toArray:=
 aT (k:=1) rfl AK AO (fun i j hi hj=>by
  have e:j=0:=by omega
  subst e
  simp [hi])
theorem p9 (n:Nat):madeCells #[.slice none 0 0] (n*1)=((List.range n).map fun _=>Value.slice none 0 0).toArray:=
 aT (k:=1) rfl AK AO (fun i j hi hj=>by
  have e:j=0:=by omega
  subst e
  simp [hi])
theorem aiG (n:Nat):madeCells (AD Ao).toArray (n*32)=(JQ (List.replicate n Ao)).toArray:=by
 have h16:∀r∈List.replicate n Ao,r.length=16:=fun r hr=>by rw [(gN.1 hr).2];rfl
 refine aT (by rw [Iu,CZ];rfl) A0 (by rw [Va h16];simp) (fun i j hi hj=>?_);rw [Ur h16 (r:=Ao) (by simp [hi]) j hj];simp
structure CM (V wr:World) (ab cb rb ib pb n:Nat) (bv pv:Value) (val:Nat→Value) (Ay:Nat→List Ins):Prop where
 A7:Below V.heap.size V wr
 aV:V.heap.size≤ab
 rV:V.heap.size≤rb
 iV:V.heap.size≤ib
 pV:V.heap.size≤pb
 head:wr.heap[ab]?=some (.cells #[bv,pv,.slice (some ⟨cb,0,none⟩) n n,.slice (some ⟨rb,0,none⟩) n n,.slice (some ⟨ib,0,none⟩) n n,.slice (some ⟨pb,0,none⟩) n n] 169 (0,0))
 Ii:wr.ownsRow V.heap.size 144 1 (.slice (some ⟨cb,0,none⟩) n n) n ((List.range n).map fun i=>val i)
 own:∀(i:Nat),i<n→wr.ownsRow V.heap.size 67 5 (val i) (Ay i).length (O8 (Ay i))
 Et:∀(i j:Nat),i<n→j<n→i≠j→∀q,(val i).ownBlock=some q→(val j).ownBlock≠some q
 Dn:wr.heap[rb]?=some (.cells ((List.replicate n false).map Value.bool).toArray 4 (0,0))
 Gh:wr.heap[ib]?=some (.cells (JQ (List.replicate n Ao)).toArray 174 (0,0))
 Bk:wr.heap[pb]?=some (.cells ((List.replicate n (0:Int)).map (Value.int .i64)).toArray 3 (0,0))
section
variable {V wr:World} {ab cb rb ib pb n:Nat} {bv pv:Value} {val:Nat→Value} {Ay:Nat→List Ins}
theorem CM.lt (h:CM V wr ab cb rb ib pb n bv pv val Ay):ab<wr.heap.size∧cb<wr.heap.size∧rb<wr.heap.size∧ib<wr.heap.size∧pb<wr.heap.size:=
 ⟨BR h.head,(h.Ii.lt cb rfl).2,BR h.Dn,BR h.Gh,BR h.Bk⟩
theorem CM.below {wr':World} (h:CM V wr ab cb rb ib pb n bv pv val Ay) (hb:Below wr.heap.size wr wr'):CM V wr' ab cb rb ib pb n bv pv val Ay:=by
 obtain⟨l1,l2,l3,l4,l5⟩:=h.lt;exact⟨h.A7.trans (hb.mono h.A7.size),h.aV,h.rV,h.iV,h.pV,(hb.block _ l1).trans h.head,CH h.Ii hb,fun i hi=>CH (h.own i hi) hb,h.Et,(hb.block _ l3).trans h.Dn,(hb.block _ l4).trans h.Gh,(hb.block _ l5).trans h.Bk⟩
theorem CM.cells (h:CM V wr ab cb rb ib pb n bv pv val Ay):wr.cell? ⟨ab,2,none⟩=some (.slice (some ⟨cb,0,none⟩) n n)∧wr.cell? ⟨ab,3,none⟩=some (.slice (some ⟨rb,0,none⟩) n n)∧wr.cell? ⟨ab,4,none⟩=some (.slice (some ⟨ib,0,none⟩) n n):=by
 refine⟨?_,?_,?_⟩<;>simp [World.cell?,h.head]
theorem CM.at_ (h:CM V wr ab cb rb ib pb n bv pv val Ay) {i:Nat} (hi:i<n):wr.cell? ⟨cb,i,none⟩=some (val i)∧wr.frozen? ⟨cb,i,none⟩=false:=
 ⟨by rw [h.Ii.cellAt _ A0,Cr,Ev hi];rfl,h.Ii.frozenAt _⟩
theorem CM.Jd (h:CM V wr ab cb rb ib pb n bv pv val Ay) {i:Nat} (hi:i<n):∀q,(val i).ownBlock=some q→V.heap.size≤q∧q≠ab∧q≠cb∧q≠rb∧q≠ib∧q≠pb:=fun q hq=>by
 have oi:=h.own i hi;obtain⟨cs,hc⟩:=JK oi hq;exact⟨(oi.lt q hq).1,Ct hc h.head AK,fun e=>FE oi h.Ii AK q hq Mj,Ct hc h.Dn AK,Ct hc h.Gh AK,Ct hc h.Bk AK⟩
theorem CM.WM (h:CM V wr ab cb rb ib pb n bv pv val Ay):ab≠cb∧rb≠cb∧ib≠cb∧pb≠cb:=by
 obtain⟨cs,hc⟩:=JK h.Ii (q:=cb) rfl;exact⟨Ct h.head hc AK,Ct h.Dn hc AK,Ct h.Gh hc AK,Ct h.Bk hc AK⟩
theorem CM.app {w2 W':World} {i:Nat} {y:Ins} {v':Value} (h:CM V wr ab cb rb ib pb n bv pv val Ay) (hi:i<n) (hb:Below wr.heap.size wr w2) (hg:w2.grownBy W' (val i).ownBlock)
  (hown:W'.ownsRow V.heap.size 67 5 v' ((Ay i).length+1) (O8 (Ay i++[y]))) (Ce:v'.ownBlock=(val i).ownBlock∨v'.ownBlock=some w2.heap.size) :
  CM V (W'.setCell ⟨cb,i,none⟩ v') ab cb rb ib pb n bv pv (upd val i v') (upd Ay i (Ay i++[y])):=by
 have G:=grown_of hb hg;have S:=Hh W' cb i v';obtain⟨l1,l2,l3,l4,l5⟩:=h.lt;obtain⟨c1,c2,c3,c4⟩:=h.WM;have JI:=G.size;have M7:=h.A7.size;have p1:=(h.Ii.lt cb rfl).1;have oi:=h.own i hi;have ob:=h.Jd hi;have same:∀k,k<wr.heap.size→k≠cb→(∀q,(val i).ownBlock=some q→k≠q)→(W'.setCell ⟨cb,i,none⟩ v').heap[k]?=wr.heap[k]?:=fun k hk hkc hkq=>by
  rw [BL _ _ _ _ (by show k≠cb;exact hkc)];exact G.block k hk (fun e=>hkq k e.symm rfl)
 have p':W'.ownsRow V.heap.size 144 1 (.slice (some ⟨cb,0,none⟩) n n) n ((List.range n).map fun i=>val i):=h.Ii.kept G (.inr (fun e'=>(ob cb e'.symm).2.2.1 rfl));have OP:∀q,v'.ownBlock=some q→q≠cb:=fun q hq e=>FE hown p' AK q hq Mj;refine⟨?_,h.aV,h.rV,h.iV,h.pV,(same ab l1 c1 (fun q hq=>(ob q hq).2.1.symm)).trans h.head,?_,fun j hj=>?_,fun a c ha hc hac q hq=>?_,(same rb l3 c2 (fun q hq=>(ob q hq).2.2.2.1.symm)).trans h.Dn,(same ib l4 c3 (fun q hq=>(ob q hq).2.2.2.2.1.symm)).trans h.Gh,(same pb l5 c4 (fun q hq=>(ob q hq).2.2.2.2.2.symm)).trans h.Bk⟩
 ·exact ((h.A7.grown G M7 (fun k hk=>(ob k hk).1)).grown S A0 (fun k hk=>by cases hk;exact p1))
 ·rw [←jc n val hi v']
  exact (p'.stored i v').1
 ·unfold upd
  by_cases e:j=i
  ·subst e
   rw [AE rfl,AE rfl];rw [show (Ay j++[y]).length=(Ay j).length+1 by simp];exact hown.kept S (by
    cases hv:v'.ownBlock with
    | none=>exact .inl rfl
    | some q=>exact .inr (fun e'=>OP q hv fM))
  ·rw [A9 e,A9 e]
   refine ((h.own j hj).kept G ?_).kept S ?_
   ·cases hv:(val j).ownBlock with
    | none=>exact .inl rfl
    | some q=>exact .inr (fun e'=>h.Et i j hi hj (fun e2=>e e2.symm) q e'.symm hv)
   ·cases hv:(val j).ownBlock with
    | none=>exact .inl rfl
    | some q=>
     refine .inr (fun e'=>?_);have SE:q=cb:=by simpa using e'
     exact FE (h.own j hj) h.Ii AK q hv (by rw [SE];rfl)
 ·have new:∀a,a<n→a≠i→∀q,v'.ownBlock=some q→(val a).ownBlock≠some q:=fun a ha hai q hq hq2=>by
   rcases Ce with h1|h1
   ·rw [h1] at hq
    exact h.Et i a hi ha (fun e=>hai e.symm) q hq hq2
   ·rw [h1] at hq
    cases hq;have:=((h.own a ha).lt _ hq2).2;have:=hb.size;omega
  unfold upd at hq ⊢;by_cases e1:a=i
  ·rw [AE e1] at hq
   rw [A9 (fun e=>hac (e1.trans e.symm))];exact new c hc (fun e=>hac (e1.trans e.symm)) q hq
  ·rw [A9 e1] at hq
   by_cases e2:c=i
   ·rw [AE e2]
    exact fun hq2=>new a ha e1 q hq2 hq
   ·rw [A9 e2]
    exact h.Et a c ha hc hac q hq
theorem CM.start {B:List AB} {G:List AV} (h:CM V wr ab cb rb ib pb n bv pv val Ay) (hB:Dc V bv G) (hl:B.length=n) (hG:G.length=n) (h0:0<n) (hn:n≤1000000) (BJ:∀(k:Nat) (x:AV) (b:AB),G[k]?=some x→B[k]?=some b→x.nx=b.nx) (hc:∀(k:Nat) (b:AB),B[k]?=some b→Ay k=b.code) :
  An V (wr.setCell ⟨rb,0,none⟩ (.bool true)) ab cb rb ib pb bv pv G B val (EW n):=by
 subst hl;obtain⟨c1,c2,c3,c4⟩:=h.WM;have n1:=Ct h.head h.Dn AK;have n2:=Ct h.Dn h.Gh AK;have n3:=Ct h.Dn h.Bk AK;have S:=Hh wr rb 0 (.bool true);refine⟨h.A7.grown S h.A7.size (fun k hk=>by cases hk;exact h.rV),hB,hG,BJ,hn,h.aV,h.rV,h.iV,h.pV,?_,?_,fun k b hk=>?_,?_,?_,?_,tP _⟩
 ·rw [BL _ _ _ _ (by show ab≠rb;exact n1)];exact h.head
 ·exact h.Ii.kept S (.inr (by simp [Value.ownBlock];exact fun e=>c2 e.symm))
 ·have hkl:=(Bl.1 hk).1
  have ho:=h.own k hkl;rw [hc k b hk] at ho;refine ho.kept S ?_;cases hv:(val k).ownBlock with
  | none=>exact .inl rfl
  | some q=>exact .inr (fun e'=>(h.Jd hkl q hv).2.2.2.1 fM)
 ·rw [Ej _ _ _ _ _ _ h.Dn,tM]
  rfl
 ·rw [BL _ _ _ _ (by show ib≠rb;exact n2.symm)];exact h.Gh
 ·rw [BL _ _ _ _ (by show pb≠rb;exact n3.symm)];exact h.Bk
end
end
def Tn (w:World) (rv iv:Value) (rl:List Bool) (il:List RG):Prop:=
 (∃A cap,rv=.slice A rl.length cap∧rl.length≤cap∧cap≤maxLen∧(0<rl.length→∃q off,A=some ⟨q,off,none⟩∧q<w.heap.size∧∀k,k<rl.length→w.cell? ⟨q,off+k,none⟩=some (.bool (rl.getD k false))))∧
 (∃A cap,iv=.slice A il.length cap∧il.length≤cap∧cap≤maxLen∧(0<il.length→∃q off,A=some ⟨q,off,none⟩∧q<w.heap.size∧∀k,k<il.length→w.rangeAt q (off+k*32) (AD (il.getD k []))))
theorem Tn.below {w w':World} {rv iv:Value} {rl:List Bool} {il:List RG} (h:Tn w rv iv rl il) (hb:Below w.heap.size w w'):Tn w' rv iv rl il:=by
 obtain⟨⟨A,cap,e1,e2,e3,e4⟩,⟨A',cap',f1,f2,f3,f4⟩⟩:=h;refine⟨⟨A,cap,e1,e2,e3,fun h0=>?_⟩,⟨A',cap',f1,f2,f3,fun h0=>?_⟩⟩
 ·obtain⟨q,off,ha,hq,hc⟩:=e4 h0
  exact⟨q,off,ha,by have:=hb.size;omega,fun k hk=>(hb.cell (p:=⟨q,off+k,none⟩) hq).trans (hc k hk)⟩
 ·obtain⟨q,off,ha,hq,hc⟩:=f4 h0
  exact⟨q,off,ha,by have:=hb.size;omega,fun k hk j v hv=>(hb.cell (p:=⟨q,off+k*32+j,none⟩) hq).trans (hc k hk j v hv)⟩
def codeFrom (cd:Nat→Int) (lo:Int) (m:Nat):List Ins:=(List.range m).map fun i:Nat=>Ak cd (lo+(i:Int))
theorem gR (cd:Nat→Int) (lo:Int) (m:Nat):codeFrom cd lo (m+1)=codeFrom cd lo m++[Ak cd (lo+m)]:=by
 unfold codeFrom;rw [J5,Nx];rfl
section
theorem pG (b:AB) (n:Nat) (r:RG):G8 b n 0 r=[]:=by unfold G8;cases F5 b.code r<;>simp
theorem xK {b:AB} {n k:Nat} {r:RG} (h:F5 b.code r=none) (hk:k<b.nx.length):G8 b n (k+1) r=G8 b n k r++[((n:Int),b.nx.getD k 0)]:=by
 unfold G8;rw [h];simp only;rw [G4,Nx,Aj hk];simp [List.getD,Aj hk]
theorem apM {b:AB} {n k:Nat} {r Ag:RG} (h:F5 b.code r=some Ag):G8 b n (k+1) r=G8 b n k r++(if (En b.last b.nx.length k Ag).isNone=true then [((n:Int),b.nx.getD k 0)] else []):=by
 unfold G8;rw [h];simp only;rw [J5,eA,Nx];congr 1
 cases he:(En b.last b.nx.length k Ag).isNone<;>simp only [aN,List.filter_nil,he]<;>simp
theorem vo (B:List AB) (s:AS) (n:Nat):GY B s (n+1)=GY B s n++(if s.reach.getD n false=true then G8 (B.getD n ⟨[],[]⟩) n (B.getD n ⟨[],[]⟩).nx.length (s.Af.getD n []) else []):=by
 unfold GY;rw [J5,QD];simp
theorem iH (b:AB) (n k:Nat) (r:RG):(G8 b n k r).length≤k:=by
 unfold G8;cases F5 b.code r with
 | none=>simp;omega
 | some Ag=>
  simp only [ED];exact EM (jN _ _) AO
theorem vC {B:List AB} {s:AS} (h:∀(k:Nat) (b:AB),B[k]?=some b→b.nx.length≤1000):∀n,(GY B s n).length≤1000*n
 | 0=>by simp [GY]
 | n+1=>by
  rw [vo,FO];have ih:=vC (s:=s) h n;have h1:(if s.reach.getD n false=true then G8 (B.getD n ⟨[],[]⟩) n (B.getD n ⟨[],[]⟩).nx.length (s.Af.getD n []) else []).length≤1000:=by
   split
   ·refine EM (iH _ _ _ _) ?_
    cases hb:B[n]? with
    | none=>simp [List.getD,hb]
    | some b=>rw [show B.getD n ⟨[],[]⟩=b by simp [List.getD,hb]];exact h n b hb
   ·simp
  omega
structure DM (Z wr:World) (b15 rb ib n:Nat) (dv:Value) (L:List (Int×Int)):Prop where
 A7:Below Z.heap.size Z wr
 ge:Z.heap.size≤b15
 head:wr.heap[b15]?=some (.cells #[.slice (some ⟨rb,0,none⟩) n n,.slice (some ⟨ib,0,none⟩) n n,dv] 59 (0,0))
 row:wr.ownsRow Z.heap.size 109 2 dv L.length (JA L)
section
variable {Z wr:World} {b15 rb ib n:Nat} {dv:Value} {L:List (Int×Int)}
theorem DM.below {wr':World} (h:DM Z wr b15 rb ib n dv L) (hb:Below wr.heap.size wr wr'):DM Z wr' b15 rb ib n dv L:=
 ⟨h.A7.trans (hb.mono h.A7.size),h.ge,(hb.block _ (BR h.head)).trans h.head,CH h.row hb⟩
theorem DM.cell (h:DM Z wr b15 rb ib n dv L):wr.cell? ⟨b15,2,none⟩=some dv∧wr.frozen? ⟨b15,2,none⟩=false∧b15<wr.heap.size:=by
 refine⟨by simp [World.cell?,h.head],by simp [World.frozen?,h.head],BR h.head⟩
theorem DM.Jd (h:DM Z wr b15 rb ib n dv L):some b15≠dv.ownBlock:=fun e=>by
 obtain⟨cs,hc⟩:=JK h.row e.symm;exact Ct hc h.head AK rfl
theorem DM.app {w2 W':World} {y:Int×Int} {v':Value} (h:DM Z wr b15 rb ib n dv L) (hb:Below wr.heap.size wr w2) (hg:w2.grownBy W' dv.ownBlock)
  (hown:W'.ownsRow Z.heap.size 109 2 v' (L.length+1) (JA (L++[y]))) :
  DM Z (W'.setCell ⟨b15,2,none⟩ v') b15 rb ib n v' (L++[y])∧∀(k:Nat) (cs:Array Value) (T:TypeId),wr.heap[k]?=some (.cells cs T (0,0))→T≠109→T≠59→(W'.setCell ⟨b15,2,none⟩ v').heap[k]?=some (.cells cs T (0,0)):=by
 have G:=grown_of hb hg;have S:=Hh W' b15 2 v';have hq:∀q,dv.ownBlock=some q→Z.heap.size≤q:=fun q hq=>(h.row.lt q hq).1;have h15:W'.heap[b15]?=some (.cells #[.slice (some ⟨rb,0,none⟩) n n,.slice (some ⟨ib,0,none⟩) n n,dv] 59 (0,0)):=(G.block b15 (BR h.head) (fun e=>h.Jd e)).trans h.head;refine⟨⟨(h.A7.grown G h.A7.size hq).grown S (by have:=G.size;have:=h.A7.size;omega) (fun k hk=>by cases hk;exact h.ge),h.ge,?_,?_⟩,fun k cs T hk h1 h2=>?_⟩
 ·rw [Ej _ _ _ _ _ _ h15]
  rfl
 ·rw [show (L++[y]).length=L.length+1 by simp]
  refine hown.kept S ?_;cases hv:v'.ownBlock with
  | none=>exact .inl rfl
  | some q=>
   refine .inr (fun e'=>?_);obtain⟨cs,hc⟩:=JK hown hv;have e2:q=b15:=by simpa using e'
   exact Ct hc h15 AK e2
 ·rw [BL _ _ _ _ (by show k≠b15;exact Ct hk h.head h2),G.block k (BR hk) (fun e=>by
   obtain⟨cs',hc⟩:=JK h.row e.symm
   exact Ct hk hc h1 rfl)]
  exact hk
end
end
end Go.Proofs.YtlmgkipmfgijiaaGreatDoor
