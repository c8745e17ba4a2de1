/-
  What is proved here: parts aAn2, aBf, aAm, aBe, aDm.
-/
import Derived.Test.YtlmgkipmfgijiaaGreatDoorVa
import Derived.Test.YtlmgkipmfgijiaaGreatDoorVl
import Derived.Test.YtlmgkipmfgijiaaGreatDoorVd
import Derived.Test.YtlmgkipmfgijiaaGreatDoorVb
import Derived.Laws.MakeOwn
namespace Go.Proofs.YtlmgkipmfgijiaaGreatDoor
set_option linter.unusedVariables false
set_option linter.unusedSimpArgs false
set_option maxRecDepth 100000
set_option maxHeartbeats 8000000
open Go.RowKit
section
theorem fe (b:Nat) (T:TypeId):∀(vs:List Value) (o:Nat) (w:World) (xs:List Value),w.heap[b]?=some (.cells xs.toArray T (0,0))→o+vs.length≤xs.length→(w.setCells b o vs).heap[b]?=some (.cells (xs.take o++vs++xs.drop (o+vs.length)).toArray T (0,0))
 | [],o,w,xs,h,hl=>by simpa [World.setCells] using h
 | v :: vs,o,w,xs,h,hl=>by
  rw [World.setCells];simp only [IQ] at hl;have h1:(w.setCell ⟨b,o,none⟩ v).heap[b]?=some (.cells (xs.set o v).toArray T (0,0)):=by
   rw [Cl w b o _ T _ h];simp
  rw [fe b T vs (o+1) _ _ h1 CD];congr 2
  have e1:(xs.set o v).take (o+1)=xs.take o++[v]:=by
   apply JR;intro i;rw [XP,Gv];by_cases hi:i<o
   ·rw [A9 A0,A6 A0,Kr fZ,XP,A9 hi]
   ·by_cases hi2:i=o
    ·subst hi2
     rw [A9 A0,A9 rfl,A9 A0,Jg fZ,Ux,Nat.min_eq_left A0];simp
    ·rw [A6 A0,Dy]
     rw [G5,Ux];simp;omega
  have e2:(xs.set o v).drop (o+1+vs.length)=xs.drop (o+(v :: vs).length):=by
   apply JR;intro i;rw [jH,jH,Gv,A6 A0,IQ];congr 1
   omega
  rw [e1,e2];simp
theorem UK (b:Nat):∀(vs:List Value) (o:Nat) (w:World) (k:Nat),k≠b→(w.setCells b o vs).heap[k]?=w.heap[k]?
 | [],o,w,k,_=>rfl
 | v :: vs,o,w,k,h=>by
  rw [World.setCells,UK b vs (o+1) _ k h,Bb _ _ _ _ (by show k≠b;exact h)]
theorem eW (b:Nat):∀(vs:List Value) (o:Nat) (w:World),(w.setCells b o vs).os=w.os∧(w.setCells b o vs).tape=w.tape∧(w.setCells b o vs).output=w.output∧(w.setCells b o vs).heap.size=w.heap.size
 | [],o,w=>⟨rfl,rfl,rfl,rfl⟩
 | v :: vs,o,w=>by
  rw [World.setCells];obtain⟨h1,h2,h3,h4⟩:=eW b vs (o+1) (w.setCell ⟨b,o,none⟩ v);exact⟨h1,h2,h3,h4.trans AR⟩
theorem Fr.setCells {S:Nat→Prop} {w w':World} {b o:Nat} (h:Fr S w w') (vs:List Value) (hp:S b∨w.heap.size≤b):Fr S w (w'.setCells b o vs):=by
 obtain⟨h1,h2,h3,h4⟩:=eW b vs o w';refine⟨h1.trans h.os,h2.trans h.tape,h3.trans h.output,by rw [h4];exact h.size,fun k hk hn=>?_⟩;rw [UK b vs o w' k (by rintro rfl;rcases hp with hp|hp;exact hn hp;omega)];exact h.block k hk hn
theorem oX {l:List Bool} {t:Nat} (v:Bool):(l.map Value.bool).toArray.setIfInBounds t (.bool v)=((l.set t v).map Value.bool).toArray:=by
 simp [Tv]
theorem apO {l:List Int} {t:Nat} (v:Int):(l.map (Value.int .i64)).toArray.setIfInBounds t (.int .i64 v)=((l.set t v).map (Value.int .i64)).toArray:=by
 simp [Tv]
section
variable {V w w':World} {ab cb rb ib pb:Nat} {bv pv:Value} {G:List AU} {B:List AB} {val:Nat→Value} {s:AS}
theorem An.there (h:An V w ab cb rb ib pb bv pv G B val s) {t:Nat} (ht:t<B.length):w.there ib (t*32) 32:=fun j hj=>by
 have hl:t<s.AG.length:=by rw [h.El.l2];exact ht
 have h1:=Vr h.Xq;constructor
 ·have:t*32+j<(JY s.AG).length:=by omega
  simp [World.cell?,h.Hi,Ab this]
 ·simp [World.frozen?,h.Hi]
theorem oL (h:∀r∈s.AG,r.length=16) {t:Nat} (ht:t<s.AG.length) {r:RG} (hr:r.length=16) (hi:w.heap[ib]?=some (.cells (JY s.AG).toArray 174 (0,0))) :
  (w.setCells ib (t*32) (AE r)).heap[ib]?=some (.cells (JY (s.AG.set t r)).toArray 174 (0,0)):=by
 have h1:=Vr h;have hc:(AE r).length=32:=by rw [Cp,hr]
 rw [fe ib _ (AE r) (t*32) w _ hi A0,hc,ao3 h ht hr]
theorem An.qD (h:An V w ab cb rb ib pb bv pv G B val s):s.AG.length=B.length:=h.El.l2
theorem An.first (h:An V w ab cb rb ib pb bv pv G B val s) (hf:Below w.heap.size w w') {t:Nat} (ht:t<B.length) {r:RG} (hr:R16 r) (hn:s.reach.getD t false=false) :
  An V ((w'.setCell ⟨rb,t,none⟩ (.bool true)).setCells ib (t*32) (AE r)) ab cb rb ib pb bv pv G B val (Ew s t (some r)).1∧Fr (Ol rb ib pb) w ((w'.setCell ⟨rb,t,none⟩ (.bool true)).setCells ib (t*32) (AE r)):=by
 obtain⟨-,-,-,-,-,-,n7,n8,n9⟩:=h.ne;have h':=h.below hf;have F:Fr (Ol rb ib pb) w' ((w'.setCell ⟨rb,t,none⟩ (.bool true)).setCells ib (t*32) (AE r)):=((Fr.refl _ _).set _ (.inl (.inl rfl))).setCells _ (.inl (.inr (.inl rfl)));have ha:=(Zf h.El ht (some r) (fun _ e=>by cases e;exact hr)).1;unfold Ew at ha ⊢;simp only [A9 hn] at ha ⊢;refine⟨h'.to F ?_ ?_ ?_ ha,(Fr.of hf).trans F⟩
 ·rw [UK _ _ _ _ _ n7,Cl _ _ _ _ _ _ h'.E6,oX]
 ·exact oL h'.Xq (by rw [h'.qD];exact ht) hr.len (by rw [Bb _ _ _ _ (by show ib≠rb;exact n7.symm)];exact h'.Hi)
 ·rw [UK _ _ _ _ _ n9.symm,Bb _ _ _ _ (by show pb≠rb;exact n8.symm)];exact h'.C8
theorem An.again (h:An V w ab cb rb ib pb bv pv G B val s) (hf:Below w.heap.size w w') {t:Nat} (ht:t<B.length) {r:RG} (hr:R16 r) (hn:s.reach.getD t false=true) (hne:Cb (s.AG.getD t []) r≠s.AG.getD t []) :
  An V ((w'.setCells ib (t*32) (AE (if 2≤s.rep.getD t 0 then Hw (s.AG.getD t []) (Cb (s.AG.getD t []) r) else Cb (s.AG.getD t []) r))).setCell ⟨pb,t,none⟩ (.int .i64 (s.rep.getD t 0+1))) ab cb rb ib pb bv pv G B val (Ew s t (some r)).1∧Fr (Ol rb ib pb) w ((w'.setCells ib (t*32) (AE (if 2≤s.rep.getD t 0 then Hw (s.AG.getD t []) (Cb (s.AG.getD t []) r) else Cb (s.AG.getD t []) r))).setCell ⟨pb,t,none⟩ (.int .i64 (s.rep.getD t 0+1))):=by
 obtain⟨-,-,-,-,-,-,n7,n8,n9⟩:=h.ne;have h':=h.below hf;have hg:=h.El.get ht;have hj:=hg.join hr;have hnew:R16 (if 2≤s.rep.getD t 0 then Hw (s.AG.getD t []) (Cb (s.AG.getD t []) r) else Cb (s.AG.getD t []) r):=by split;exact hg.Xg hj;exact hj
 have F:Fr (Ol rb ib pb) w' ((w'.setCells ib (t*32) (AE (if 2≤s.rep.getD t 0 then Hw (s.AG.getD t []) (Cb (s.AG.getD t []) r) else Cb (s.AG.getD t []) r))).setCell ⟨pb,t,none⟩ (.int .i64 (s.rep.getD t 0+1))):=((Fr.refl _ _).setCells _ (.inl (.inr (.inl rfl)))).set _ (.inl (.inr (.inr rfl)));have ha:=(Zf h.El ht (some r) (fun _ e=>by cases e;exact hr)).1;unfold Ew at ha ⊢;simp only [A6 (show ¬s.reach.getD t false=false by rw [hn];simp),A6 hne] at ha ⊢;refine⟨h'.to F ?_ ?_ ?_ ha,(Fr.of hf).trans F⟩
 ·rw [Bb _ _ _ _ (by show rb≠pb;exact n8),UK _ _ _ _ _ n7];exact h'.E6
 ·rw [Bb _ _ _ _ (by show ib≠pb;exact n9)]
  exact oL h'.Xq (by rw [h'.qD];exact ht) hnew.len h'.Hi
 ·rw [Cl _ _ _ _ _ _ ((UK _ _ _ _ _ n9.symm).trans h'.C8),apO]
end
end
theorem xA (cv ev:Value) (sh lk:Int) (n:Nat) (cd:Nat→Int) (pc:Nat) (hpc:pc<n) (hd:(Ba (cd pc)).2=0) (w:World) (T:CO w) (HW:Words w cv n cd) :
  Calls Tryz.prog 85 #[.agg #[cv,ev,.int .i64 sh,.int .i64 lk],.int .i64 (pc:Int)] w fun e w'=>e=.returned (.tuple #[(AK cd (pc:Int)).val,.bool true])∧Below w.heap.size w w':=by
 obtain⟨A,cap,rfl,hc1,hc2,hc3⟩:=HW.at_;obtain⟨b,off,rfl,hb,hc⟩:=hc3 A0;have hwd:=HW.wd pc hpc;have hcell:=hc pc hpc;obtain⟨x,hx⟩:=A8 (cd pc);rw [hx] at hwd hcell hd;obtain⟨V,hV,k0,k1,bV,sV⟩:∃V,(w.alloc (.cells #[.slice (some ⟨b,off,none⟩) n cap,ev,.int .i64 sh,.int .i64 lk] 25)).alloc (.cells #[.int .u8 0,.int .i64 0,.int .i64 0,.int .i64 0,.int .i64 0] 67)=V∧V.heap[w.heap.size]?=some (.cells #[.slice (some ⟨b,off,none⟩) n cap,ev,.int .i64 sh,.int .i64 lk] 25 (0,0))∧V.heap[w.heap.size+1]?=some (.cells #[.int .u8 0,.int .i64 0,.int .i64 0,.int .i64 0,.int .i64 0] 67 (0,0))∧Below w.heap.size w V∧V.heap.size=w.heap.size+1+1:=by
  refine⟨_,rfl,?_,Et _ _ AR,((AV _ _).alloc (AH _) _).alloc AR _,by simp⟩;rw [Bv _ _ AR];exact AY _ _
 have v0:V.cell? ⟨w.heap.size,0,none⟩=some (.slice (some ⟨b,off,none⟩) n cap):=by simp [World.cell?,k0]
 have vx:V.cell? ⟨b,off+pc,none⟩=some (.int .u32 x):=(bV.cell (p:=⟨b,off+pc,none⟩) hb).trans hcell;have dp:decide ((pc:Int)<0)=false:=Ad A0;have dn2:(pc:Int)<(n:Int):=by omega
 obtain⟨op,a,b',c,im,hi⟩:∃op a b c im,(Ba x).1=⟨op,a,b,c,im⟩:=⟨_,_,_,_,_,rfl⟩;have HD:=A3 (show Calls Tryz.prog 22 #[.int .u32 x] V fun e w'=>e=.returned (.tuple #[.agg #[.int .u8 op,.int .i64 a,.int .i64 b',.int .i64 c,.int .i64 im],.int .i64 0])∧Below V.heap.size V w' from by
  have:=VS x hwd.1 hwd.2 V (T.below bV);rw [hd,hi] at this
  exact this)
 have HI:=A3 (show AK cd (pc:Int)=⟨op,a,b',c,im⟩ by unfold AK;rw [show ((pc:Int)).toNat=pc by omega,hx];exact hi);have⟨BV,K1,SV⟩:=Bh bV k1 sV;clear hc hc3 hx hd hi bV k0 k1 sV hcell HW hc2 hb;go_enter Tryz.func85,Tryz.ntmps85;go_upto_region 4 with (first|(go_at_call 22;refine HD.out.mono ?_;rintro e w1 ⟨rfl,hb1⟩));obtain⟨Y,hY⟩:=A8 (w1.alloc (.cells #[.int .u8 op,.int .i64 a,.int .i64 b',.int .i64 c,.int .i64 im] 67));rw [hY];have bY:Below w1.heap.size w1 Y:=hY▸(AV _ _).alloc (AH _) _;obtain⟨z0,z1,z2,z3,z4,lY⟩:=Iw (show Y.heap[w1.heap.size]?=some (.cells #[.int .u8 op,.int .i64 a,.int .i64 b',.int .i64 c,.int .i64 im] 67 (0,0)) from hY▸AY _ _);have bVY:Below V.heap.size V Y:=hb1.trans (bY.mono hb1.size);have KY:Y.heap[w.heap.size+1]?=some (.cells #[.int .u8 0,.int .i64 0,.int .i64 0,.int .i64 0,.int .i64 0] 67 (0,0)):=(bVY.block _ Y5).trans K1.out;have⟨KYH,BY⟩:=AQ KY (BV.out.trans (bVY.mono BV.out.size));clear hY bY bVY KY hb1 hV vx v0;go_wp2_with (refine Bk rfl 67 (.tmp 4) (.tmp 27) rfl (w.heap.size+1) #[.int .u8 op,.int .i64 a,.int .i64 b',.int .i64 c,.int .i64 im] rfl rfl 67 _ KYH.out A4 rfl Bd ?_);rw [HI.out];refine Af (results_cell_tmp (P:=Tryz.prog) Tryz.results85 _ _ (w.heap.size+1) [.int .u8 op,.int .i64 a,.int .i64 b',.int .i64 c,.int .i64 im] _ rfl (Ev (Fg _ _ _ _ _ _ KYH.out)) Tryz.underlying67 rfl A4) rfl ⟨rfl,Bu BY.out A0 _⟩
section
theorem cV {z:Array Value} {m k:Nat} (hk:z.size=k) (h0:0<k) {xs:List Value} (hl:xs.length=m*k) (hx:∀i j,i<m→j<k→xs[i*k+j]?=z[j]?):madeCells z (m*k)=xs.toArray:=by
 apply Array.ext
 ·simp [madeCells,hl]
 ·intro q h1 h2
  have hq:q<m*k:=by simpa [hl] using h2
  have h3:q / k<m:=(Nat.div_lt_iff_lt_mul h0).2 hq;have h4:q % k<k:=dW _ h0;have e:q / k*k+q % k=q:=by rw [Nat.mul_comm];exact Nat.div_add_mod q k
  have h5:=hx (q / k) (q % k) h3 h4;rw [e] at h5;have h6:xs[q]?=some xs[q]:=Ab (by simpa using h2);rw [h6] at h5;simp only [madeCells,Array.getElem_map,Array.getElem_range,Az,hk];simp only [getElem!_def,← h5]
theorem mZ (n:Nat):madeCells #[.bool false] (n*1)=((List.replicate n false).map Value.bool).toArray:=
 cV (k:=1) rfl AP AR (fun i j hi hj=>by
  have e:j=0:=by omega
  subst e
  simp [hi])
theorem zk (n:Nat):madeCells #[.int .i64 0] (n*1)=((List.replicate n (0:Int)).map (Value.int .i64)).toArray:=
 cV (k:=1) rfl AP AR (fun i j hi hj=>by
  have e:j=0:=by omega
  subst e
  simp [hi])
theorem wD (n:Nat):madeCells #[.slice none 0 0] (n*1)=((List.range n).map fun _=>Value.slice none 0 0).toArray:=
 cV (k:=1) rfl AP AR (fun i j hi hj=>by
  have e:j=0:=by omega
  subst e
  simp [hi])
theorem aqN (n:Nat):madeCells (AE Aj).toArray (n*32)=(JY (List.replicate n Aj)).toArray:=by
 have h16:∀r∈List.replicate n Aj,r.length=16:=fun r hr=>by rw [(YW.1 hr).2];rfl
 refine cV (by rw [Ig,Cp];rfl) A0 (by rw [Vr h16];simp) (fun i j hi hj=>?_);rw [Uq h16 (r:=Aj) (by simp [hi]) j hj];simp
structure CM (V wr:World) (ab cb rb ib pb n:Nat) (bv pv:Value) (val:Nat→Value) (Ah:Nat→List Ins):Prop where
 AA:Below V.heap.size V wr
 aV:V.heap.size≤ab
 rV:V.heap.size≤rb
 iV:V.heap.size≤ib
 pV:V.heap.size≤pb
 head:wr.heap[ab]?=some (.cells #[bv,pv,.slice (some ⟨cb,0,none⟩) n n,.slice (some ⟨rb,0,none⟩) n n,.slice (some ⟨ib,0,none⟩) n n,.slice (some ⟨pb,0,none⟩) n n] 169 (0,0))
 JH:wr.ownsRow V.heap.size 144 1 (.slice (some ⟨cb,0,none⟩) n n) n ((List.range n).map fun i=>val i)
 own:∀(i:Nat),i<n→wr.ownsRow V.heap.size 67 5 (val i) (Ah i).length (Nf (Ah i))
 FR:∀(i j:Nat),i<n→j<n→i≠j→∀q,(val i).ownBlock=some q→(val j).ownBlock≠some q
 E6:wr.heap[rb]?=some (.cells ((List.replicate n false).map Value.bool).toArray 4 (0,0))
 Hi:wr.heap[ib]?=some (.cells (JY (List.replicate n Aj)).toArray 174 (0,0))
 C8:wr.heap[pb]?=some (.cells ((List.replicate n (0:Int)).map (Value.int .i64)).toArray 3 (0,0))
section
variable {V wr:World} {ab cb rb ib pb n:Nat} {bv pv:Value} {val:Nat→Value} {Ah:Nat→List Ins}
theorem CM.lt (h:CM V wr ab cb rb ib pb n bv pv val Ah):ab<wr.heap.size∧cb<wr.heap.size∧rb<wr.heap.size∧ib<wr.heap.size∧pb<wr.heap.size:=
 ⟨Ak h.head,(h.JH.lt cb rfl).2,Ak h.E6,Ak h.Hi,Ak h.C8⟩
theorem CM.below {wr':World} (h:CM V wr ab cb rb ib pb n bv pv val Ah) (hb:Below wr.heap.size wr wr'):CM V wr' ab cb rb ib pb n bv pv val Ah:=by
 obtain⟨l1,l2,l3,l4,l5⟩:=h.lt;exact⟨h.AA.trans (hb.mono h.AA.size),h.aV,h.rV,h.iV,h.pV,(hb.block _ l1).trans h.head,CS h.JH hb,fun i hi=>CS (h.own i hi) hb,h.FR,(hb.block _ l3).trans h.E6,(hb.block _ l4).trans h.Hi,(hb.block _ l5).trans h.C8⟩
theorem CM.cells (h:CM V wr ab cb rb ib pb n bv pv val Ah):wr.cell? ⟨ab,2,none⟩=some (.slice (some ⟨cb,0,none⟩) n n)∧wr.cell? ⟨ab,3,none⟩=some (.slice (some ⟨rb,0,none⟩) n n)∧wr.cell? ⟨ab,4,none⟩=some (.slice (some ⟨ib,0,none⟩) n n):=by
 refine⟨?_,?_,?_⟩<;>simp [World.cell?,h.head]
theorem CM.at_ (h:CM V wr ab cb rb ib pb n bv pv val Ah) {i:Nat} (hi:i<n):wr.cell? ⟨cb,i,none⟩=some (val i)∧wr.frozen? ⟨cb,i,none⟩=false:=
 ⟨by rw [h.JH.cellAt _ A0,D8,FI hi];rfl,h.JH.frozenAt _⟩
theorem CM.Jj (h:CM V wr ab cb rb ib pb n bv pv val Ah) {i:Nat} (hi:i<n):∀q,(val i).ownBlock=some q→V.heap.size≤q∧q≠ab∧q≠cb∧q≠rb∧q≠ib∧q≠pb:=fun q hq=>by
 have oi:=h.own i hi;obtain⟨cs,hc⟩:=LS oi hq;exact⟨(oi.lt q hq).1,Dh hc h.head AP,fun e=>Fs oi h.JH AP q hq NF,Dh hc h.E6 AP,Dh hc h.Hi AP,Dh hc h.C8 AP⟩
theorem CM.WD (h:CM V wr ab cb rb ib pb n bv pv val Ah):ab≠cb∧rb≠cb∧ib≠cb∧pb≠cb:=by
 obtain⟨cs,hc⟩:=LS h.JH (q:=cb) rfl;exact⟨Dh h.head hc AP,Dh h.E6 hc AP,Dh h.Hi hc AP,Dh h.C8 hc AP⟩
theorem CM.app {w2 W':World} {i:Nat} {y:Ins} {v':Value} (h:CM V wr ab cb rb ib pb n bv pv val Ah) (hi:i<n) (hb:Below wr.heap.size wr w2) (hg:w2.grownBy W' (val i).ownBlock)
  (hown:W'.ownsRow V.heap.size 67 5 v' ((Ah i).length+1) (Nf (Ah i++[y]))) (DY:v'.ownBlock=(val i).ownBlock∨v'.ownBlock=some w2.heap.size) :
  CM V (W'.setCell ⟨cb,i,none⟩ v') ab cb rb ib pb n bv pv (upd val i v') (upd Ah i (Ah i++[y])):=by
 have G:=grown_of hb hg;have S:=Hz W' cb i v';obtain⟨l1,l2,l3,l4,l5⟩:=h.lt;obtain⟨c1,c2,c3,c4⟩:=h.WD;have Iz:=G.size;have MJ:=h.AA.size;have p1:=(h.JH.lt cb rfl).1;have oi:=h.own i hi;have ob:=h.Jj hi;have same:∀k,k<wr.heap.size→k≠cb→(∀q,(val i).ownBlock=some q→k≠q)→(W'.setCell ⟨cb,i,none⟩ v').heap[k]?=wr.heap[k]?:=fun k hk hkc hkq=>by
  rw [Bb _ _ _ _ (by show k≠cb;exact hkc)];exact G.block k hk (fun e=>hkq k e.symm rfl)
 have p':W'.ownsRow V.heap.size 144 1 (.slice (some ⟨cb,0,none⟩) n n) n ((List.range n).map fun i=>val i):=h.JH.kept G (.inr (fun e'=>(ob cb e'.symm).2.2.1 rfl));have PG:∀q,v'.ownBlock=some q→q≠cb:=fun q hq e=>Fs hown p' AP q hq NF;refine⟨?_,h.aV,h.rV,h.iV,h.pV,(same ab l1 c1 (fun q hq=>(ob q hq).2.1.symm)).trans h.head,?_,fun j hj=>?_,fun a c ha hc hac q hq=>?_,(same rb l3 c2 (fun q hq=>(ob q hq).2.2.2.1.symm)).trans h.E6,(same ib l4 c3 (fun q hq=>(ob q hq).2.2.2.2.1.symm)).trans h.Hi,(same pb l5 c4 (fun q hq=>(ob q hq).2.2.2.2.2.symm)).trans h.C8⟩
 ·exact ((h.AA.grown G MJ (fun k hk=>(ob k hk).1)).grown S A0 (fun k hk=>by cases hk;exact p1))
 ·rw [←kJ n val hi v']
  exact (p'.stored i v').1
 ·unfold upd
  by_cases e:j=i
  ·subst e
   rw [A9 rfl,A9 rfl];rw [show (Ah j++[y]).length=(Ah j).length+1 by simp];exact hown.kept S (by
    cases hv:v'.ownBlock with
    | none=>exact .inl rfl
    | some q=>exact .inr (fun e'=>PG q hv bg))
  ·rw [A6 e,A6 e]
   refine ((h.own j hj).kept G ?_).kept S ?_
   ·cases hv:(val j).ownBlock with
    | none=>exact .inl rfl
    | some q=>exact .inr (fun e'=>h.FR i j hi hj (fun e2=>e e2.symm) q e'.symm hv)
   ·cases hv:(val j).ownBlock with
    | none=>exact .inl rfl
    | some q=>
     refine .inr (fun e'=>?_);have SJ:q=cb:=by simpa using e'
     exact Fs (h.own j hj) h.JH AP q hv (by rw [SJ];rfl)
 ·have new:∀a,a<n→a≠i→∀q,v'.ownBlock=some q→(val a).ownBlock≠some q:=fun a ha hai q hq hq2=>by
   rcases DY with h1|h1
   ·rw [h1] at hq
    exact h.FR i a hi ha (fun e=>hai e.symm) q hq hq2
   ·rw [h1] at hq
    cases hq;have:=((h.own a ha).lt _ hq2).2;have:=hb.size;omega
  unfold upd at hq ⊢;by_cases e1:a=i
  ·rw [A9 e1] at hq
   rw [A6 (fun e=>hac (e1.trans e.symm))];exact new c hc (fun e=>hac (e1.trans e.symm)) q hq
  ·rw [A6 e1] at hq
   by_cases e2:c=i
   ·rw [A9 e2]
    exact fun hq2=>new a ha e1 q hq2 hq
   ·rw [A6 e2]
    exact h.FR a c ha hc hac q hq
theorem CM.start {B:List AB} {G:List AU} (h:CM V wr ab cb rb ib pb n bv pv val Ah) (hB:E7 V bv G) (hl:B.length=n) (hG:G.length=n) (h0:0<n) (hn:n≤1000000) (BK:∀(k:Nat) (x:AU) (b:AB),G[k]?=some x→B[k]?=some b→x.nx=b.nx) (hc:∀(k:Nat) (b:AB),B[k]?=some b→Ah k=b.code) :
  An V (wr.setCell ⟨rb,0,none⟩ (.bool true)) ab cb rb ib pb bv pv G B val (EI n):=by
 subst hl;obtain⟨c1,c2,c3,c4⟩:=h.WD;have n1:=Dh h.head h.E6 AP;have n2:=Dh h.E6 h.Hi AP;have n3:=Dh h.E6 h.C8 AP;have S:=Hz wr rb 0 (.bool true);refine⟨h.AA.grown S h.AA.size (fun k hk=>by cases hk;exact h.rV),hB,hG,BK,hn,h.aV,h.rV,h.iV,h.pV,?_,?_,fun k b hk=>?_,?_,?_,?_,rj _⟩
 ·rw [Bb _ _ _ _ (by show ab≠rb;exact n1)];exact h.head
 ·exact h.JH.kept S (.inr (by simp [Value.ownBlock];exact fun e=>c2 e.symm))
 ·have DK:=(Bc.1 hk).1
  have ho:=h.own k DK;rw [hc k b hk] at ho;refine ho.kept S ?_;cases hv:(val k).ownBlock with
  | none=>exact .inl rfl
  | some q=>exact .inr (fun e'=>(h.Jj DK q hv).2.2.2.1 bg)
 ·rw [Cl _ _ _ _ _ _ h.E6,oX]
  rfl
 ·rw [Bb _ _ _ _ (by show ib≠rb;exact n2.symm)];exact h.Hi
 ·rw [Bb _ _ _ _ (by show pb≠rb;exact n3.symm)];exact h.C8
end
end
def TQ (w:World) (rv iv:Value) (rl:List Bool) (il:List RG):Prop:=
 (∃A cap,rv=.slice A rl.length cap∧rl.length≤cap∧cap≤maxLen∧(0<rl.length→∃q off,A=some ⟨q,off,none⟩∧q<w.heap.size∧∀k,k<rl.length→w.cell? ⟨q,off+k,none⟩=some (.bool (rl.getD k false))))∧
 (∃A cap,iv=.slice A il.length cap∧il.length≤cap∧cap≤maxLen∧(0<il.length→∃q off,A=some ⟨q,off,none⟩∧q<w.heap.size∧∀k,k<il.length→w.rangeAt q (off+k*32) (AE (il.getD k []))))
theorem TQ.below {w w':World} {rv iv:Value} {rl:List Bool} {il:List RG} (h:TQ w rv iv rl il) (hb:Below w.heap.size w w'):TQ w' rv iv rl il:=by
 obtain⟨⟨A,cap,e1,e2,e3,e4⟩,⟨A',cap',f1,f2,f3,f4⟩⟩:=h;refine⟨⟨A,cap,e1,e2,e3,fun h0=>?_⟩,⟨A',cap',f1,f2,f3,fun h0=>?_⟩⟩
 ·obtain⟨q,off,ha,hq,hc⟩:=e4 h0
  exact⟨q,off,ha,by have:=hb.size;omega,fun k hk=>(hb.cell (p:=⟨q,off+k,none⟩) hq).trans (hc k hk)⟩
 ·obtain⟨q,off,ha,hq,hc⟩:=f4 h0
  exact⟨q,off,ha,by have:=hb.size;omega,fun k hk j v hv=>(hb.cell (p:=⟨q,off+k*32+j,none⟩) hq).trans (hc k hk j v hv)⟩
def codeFrom (cd:Nat→Int) (lo:Int) (m:Nat):List Ins:=(List.range m).map fun i:Nat=>AK cd (lo+(i:Int))
theorem Zr (cd:Nat→Int) (lo:Int) (m:Nat):codeFrom cd lo (m+1)=codeFrom cd lo m++[AK cd (lo+m)]:=by
 unfold codeFrom;rw [JT,Qh];rfl
theorem uV:∀(l l':List Ins) (r:RG),Dc (l++l') r=match Dc l r with|none=>none|some r'=>Dc l' r'
 | [],l',r=>rfl
 | i :: l,l',r=>by
  simp only [dU,Dc];cases Hu i r with
  | none=>rfl
  | some r'=>exact uV l l' r'
section
theorem wB (b:AB) (n:Nat) (r:RG):Ee b n 0 r=[]:=by unfold Ee;cases Dc b.code r<;>simp
theorem apD {b:AB} {n k:Nat} {r:RG} (h:Dc b.code r=none) (hk:k<b.nx.length):Ee b n (k+1) r=Ee b n k r++[((n:Int),b.nx.getD k 0)]:=by
 unfold Ee;rw [h];simp only;rw [I6,Qh,Ab hk];simp [List.getD,Ab hk]
theorem yR {b:AB} {n k:Nat} {r AX:RG} (h:Dc b.code r=some AX):Ee b n (k+1) r=Ee b n k r++(if (ES b.last b.nx.length k AX).isNone=true then [((n:Int),b.nx.getD k 0)] else []):=by
 unfold Ee;rw [h];simp only;rw [JT,Zz,Qh];congr 1
 cases he:(ES b.last b.nx.length k AX).isNone<;>simp only [dF,List.filter_nil,he]<;>simp
theorem qU (B:List AB) (s:AS) (n:Nat):Em B s (n+1)=Em B s n++(if s.reach.getD n false=true then Ee (B.getD n ⟨[],[]⟩) n (B.getD n ⟨[],[]⟩).nx.length (s.AG.getD n []) else []):=by
 unfold Em;rw [JT,Qu];simp
theorem lH (b:AB) (n k:Nat) (r:RG):(Ee b n k r).length≤k:=by
 unfold Ee;cases Dc b.code r with
 | none=>simp;omega
 | some AX=>
  simp only [FQ];exact FK (ko _ _) AR
theorem vL {B:List AB} {s:AS} (h:∀(k:Nat) (b:AB),B[k]?=some b→b.nx.length≤1000):∀n,(Em B s n).length≤1000*n
 | 0=>by simp [Em]
 | n+1=>by
  rw [qU,G5];have ih:=vL (s:=s) h n;have h1:(if s.reach.getD n false=true then Ee (B.getD n ⟨[],[]⟩) n (B.getD n ⟨[],[]⟩).nx.length (s.AG.getD n []) else []).length≤1000:=by
   split
   ·refine FK (lH _ _ _ _) ?_
    cases hb:B[n]? with
    | none=>simp [List.getD,hb]
    | some b=>rw [show B.getD n ⟨[],[]⟩=b by simp [List.getD,hb]];exact h n b hb
   ·simp
  omega
structure DM (Z wr:World) (b15 rb ib n:Nat) (dv:Value) (L:List (Int×Int)):Prop where
 AA:Below Z.heap.size Z wr
 ge:Z.heap.size≤b15
 head:wr.heap[b15]?=some (.cells #[.slice (some ⟨rb,0,none⟩) n n,.slice (some ⟨ib,0,none⟩) n n,dv] 59 (0,0))
 row:wr.ownsRow Z.heap.size 109 2 dv L.length (JE L)
section
variable {Z wr:World} {b15 rb ib n:Nat} {dv:Value} {L:List (Int×Int)}
theorem DM.below {wr':World} (h:DM Z wr b15 rb ib n dv L) (hb:Below wr.heap.size wr wr'):DM Z wr' b15 rb ib n dv L:=
 ⟨h.AA.trans (hb.mono h.AA.size),h.ge,(hb.block _ (Ak h.head)).trans h.head,CS h.row hb⟩
theorem DM.cell (h:DM Z wr b15 rb ib n dv L):wr.cell? ⟨b15,2,none⟩=some dv∧wr.frozen? ⟨b15,2,none⟩=false∧b15<wr.heap.size:=by
 refine⟨by simp [World.cell?,h.head],by simp [World.frozen?,h.head],Ak h.head⟩
theorem DM.Jj (h:DM Z wr b15 rb ib n dv L):some b15≠dv.ownBlock:=fun e=>by
 obtain⟨cs,hc⟩:=LS h.row e.symm;exact Dh hc h.head AP rfl
theorem DM.app {w2 W':World} {y:Int×Int} {v':Value} (h:DM Z wr b15 rb ib n dv L) (hb:Below wr.heap.size wr w2) (hg:w2.grownBy W' dv.ownBlock)
  (hown:W'.ownsRow Z.heap.size 109 2 v' (L.length+1) (JE (L++[y]))) :
  DM Z (W'.setCell ⟨b15,2,none⟩ v') b15 rb ib n v' (L++[y])∧∀(k:Nat) (cs:Array Value) (T:TypeId),wr.heap[k]?=some (.cells cs T (0,0))→T≠109→T≠59→(W'.setCell ⟨b15,2,none⟩ v').heap[k]?=some (.cells cs T (0,0)):=by
 have G:=grown_of hb hg;have S:=Hz W' b15 2 v';have hq:∀q,dv.ownBlock=some q→Z.heap.size≤q:=fun q hq=>(h.row.lt q hq).1;have h15:W'.heap[b15]?=some (.cells #[.slice (some ⟨rb,0,none⟩) n n,.slice (some ⟨ib,0,none⟩) n n,dv] 59 (0,0)):=(G.block b15 (Ak h.head) (fun e=>h.Jj e)).trans h.head;refine⟨⟨(h.AA.grown G h.AA.size hq).grown S (by have:=G.size;have:=h.AA.size;omega) (fun k hk=>by cases hk;exact h.ge),h.ge,?_,?_⟩,fun k cs T hk h1 h2=>?_⟩
 ·rw [Cl _ _ _ _ _ _ h15]
  rfl
 ·rw [show (L++[y]).length=L.length+1 by simp]
  refine hown.kept S ?_;cases hv:v'.ownBlock with
  | none=>exact .inl rfl
  | some q=>
   refine .inr (fun e'=>?_);obtain⟨cs,hc⟩:=LS hown hv;have e2:q=b15:=by simpa using e'
   exact Dh hc h15 AP e2
 ·rw [Bb _ _ _ _ (by show k≠b15;exact Dh hk h.head h2),G.block k (Ak hk) (fun e=>by
   obtain⟨cs',hc⟩:=LS h.row e.symm
   exact Dh hk hc h1 rfl)]
  exact hk
end
end
end Go.Proofs.YtlmgkipmfgijiaaGreatDoor
