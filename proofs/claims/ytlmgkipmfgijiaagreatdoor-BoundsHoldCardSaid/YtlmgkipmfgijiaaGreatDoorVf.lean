/-
  What is proved here: parts pPar, pSort, pVis, pBody, pMem, pMem2, pFind.
-/
import Derived.Test.YtlmgkipmfgijiaaGreatDoorVa
import Derived.Test.YtlmgkipmfgijiaaGreatDoorVe
import Derived.Shelf.SlIterI.Nil
import Derived.Shelf.SlIterI.Sorted
import Derived.Shelf.SortM.Plain
import Derived.Shelf.SortM.SortNone
import Derived.Ground.GgzProg
import Derived.Ground.SlgmProg
import Derived.Laws.EntriesVeiled
namespace Go.Proofs.YtlmgkipmfgijiaaGreatDoor
set_option linter.unusedVariables false
set_option linter.unusedSimpArgs false
set_option maxRecDepth 100000
set_option maxHeartbeats 8000000
open Go.RowKit
structure Lp where
 h:Int
 bl:List Int
 la:List Int
def cm (w w':World) (b o:Nat) (x:Lp):Prop:=
 w'.cell? ⟨b,o,none⟩=some (.int .i64 x.h)∧(∃v,w'.cell? ⟨b,o+1,none⟩=some v∧Ints w v x.bl)∧(∃v,w'.cell? ⟨b,o+2,none⟩=some v∧Ints w v x.la)∧∃p:Int,w'.cell? ⟨b,o+3,none⟩=some (.int .i64 p)
def IW (w:World) (v:Value) (L:List Lp):Prop:=
 ∃A cap,v=.slice A L.length cap∧L.length≤cap∧cap≤maxLen∧(0<L.length→∃b off,A=some ⟨b,off,none⟩∧b<w.heap.size∧∀(k:Nat) (x:Lp),L[k]?=some x→cm w w b (off+k*4) x)
theorem cm.below {w w':World} {b o:Nat} {x:Lp} (h:cm w w b o x) (hb:Below w.heap.size w w') (hl:b<w.heap.size):cm w w' b o x:=by
 obtain⟨h1,⟨v,h2,h3⟩,⟨u,h4,h5⟩,p,h6⟩:=h;exact⟨(hb.cell (p:=⟨b,_,none⟩) hl).trans h1,⟨v,(hb.cell (p:=⟨b,_,none⟩) hl).trans h2,h3⟩,⟨u,(hb.cell (p:=⟨b,_,none⟩) hl).trans h4,h5⟩,p,(hb.cell (p:=⟨b,_,none⟩) hl).trans h6⟩
theorem IW.below {w w':World} {v:Value} {L:List Lp} (h:IW w v L) (hb:Below w.heap.size w w'):IW w' v L:=by
 obtain⟨A,cap,h1,h2,h3,h4⟩:=h;refine⟨A,cap,h1,h2,h3,fun h0=>?_⟩;obtain⟨b,off,e,hl,hc⟩:=h4 h0;refine⟨b,off,e,by have:=hb.size;omega,fun k x hx=>?_⟩;obtain⟨h1,⟨v,h2,h3⟩,⟨u,h4,h5⟩,p,h6⟩:=(hc k x hx).below hb hl;exact⟨h1,⟨v,h2,h3.below hb⟩,⟨u,h4,h5.below hb⟩,p,h6⟩
theorem FY {w:World} {b:Nat} {a c d e:Value} {t:TypeId} (h:w.heap[b]?=some (.cells #[a,c,d,e] t (0,0))):w.cell? ⟨b,0,none⟩=some a∧w.cell? ⟨b,1,none⟩=some c∧w.cell? ⟨b,2,none⟩=some d∧w.cell? ⟨b,3,none⟩=some e∧b<w.heap.size:=
 ⟨by simp [World.cell?,h],by simp [World.cell?,h],by simp [World.cell?,h],by simp [World.cell?,h],(Bl.1 h).1⟩
theorem ar5 (v:Value) (L:List Lp) (i:Nat) (w:World) (HL:IW w v L) (hi:i<L.length) (hn5:L.length≤1000000) :
  Calls Tryz.prog 43 #[v,.int .i64 (i:Int)] w fun e w'=>asg e∧Below w.heap.size w w':=by
 obtain⟨A,cap,rfl,hc1,hc2,h4⟩:=HL;obtain⟨q,off,rfl,hq,hc⟩:=h4 A0;obtain⟨n,hn⟩:=A8 L.length;rw [hn] at hi hn5 ⊢;have⟨HN,HC⟩:=AQ hn hc;obtain⟨x,hx⟩:∃x,L[i]?=some x:=⟨_,Ab (by rw [HN.out];exact hi)⟩;obtain⟨c0,⟨bv,c1,EP⟩,⟨lv,c2,hlv⟩,p0,c3⟩:=hc i x hx;obtain⟨BA,GF,rfl,hb1,hb2⟩:=EP.slice;obtain⟨ZA,oK,rfl,-,-⟩:=hlv.slice;obtain⟨zn,Yh⟩:∃n,x.la.length=n:=⟨_,rfl⟩;rw [Yh] at c2;obtain⟨bn,DC⟩:∃n,x.bl.length=n:=⟨_,rfl⟩;rw [DC] at c1;obtain⟨xh,FT⟩:∃h,x.h=h:=⟨_,rfl⟩;rw [FT] at c0;have⟨Hl,VY⟩:=AQ EP DC;have i1:(i:Int)<(n:Int):=by omega
 clear h4 hc hx hn hc1 hc2 EP hlv hb1 hb2 DC FT Yh;go_enter Tryz.func43,Tryz.ntmps43;go_upto_region 3 with fail;obtain⟨q6,hq6⟩:∃q,w.heap.size=q:=⟨_,rfl⟩;obtain⟨V,hV⟩:=A8 (w.alloc (.cells #[.int .i64 xh,.slice BA bn GF,.slice ZA zn oK,.int .i64 p0] 46));rw [hV,hq6];have b1:Below w.heap.size w V:=hV▸(AV _ _).alloc (AH _) _;have k6:V.heap[q6]?=some (.cells #[.int .i64 xh,.slice BA bn GF,.slice ZA zn oK,.int .i64 p0] 46 (0,0)):=by rw [←hq6,← hV];exact AY _ _
 have⟨K6,B1⟩:=AQ k6 b1;have lq6:=(FY k6).2.2.2.2;clear k6 b1 hV hq6 c0 c1 c2 c3 i1;go_upto_region 4 with fail;go_loopw [5,15] (fun a5 a15 wr=>∃(k:Nat) (best:Int),k≤n∧(best = -1∨0≤best∧best<(n:Int))∧a15=.int .i64 (k:Int)∧a5=.int .i64 best∧Below V.heap.size V wr) (fun _ a15 _=>n - (intOf a15).toNat);case atStart=>exact⟨0,-1,Ca _,.inl rfl,rfl,rfl,AV _ _⟩
 case round=>
  obtain⟨k,best,hk,ZC,rfl,rfl,hb⟩:=hrel;have HW:=A3 hb;have hsz:=hb.size;have HWB:=A3 (B1.out.trans (hb.mono B1.out.size));by_cases hlt:k<n
  ·have dl:decide ((k:Int)<(n:Int))=true:=Ac A0
   obtain⟨y,hy⟩:∃x,L[k]?=some x:=⟨_,Ab (by rw [HN.out];exact hlt)⟩;obtain⟨c0,⟨yv,c1,hyv⟩,⟨zv,c2,hzv⟩,p1,c3⟩:=(HC.out k y hy).below HWB.out hq;obtain⟨YA,iY,rfl,hy1,hy2⟩:=hyv.slice;obtain⟨TA,uz,rfl,-,-⟩:=hzv.slice;obtain⟨tn,htn⟩:∃n,y.la.length=n:=⟨_,rfl⟩;rw [htn] at c2;obtain⟨yn,Ti⟩:∃n,y.bl.length=n:=⟨_,rfl⟩;rw [Ti] at c1;obtain⟨yh,WZ⟩:∃h,y.h=h:=⟨_,rfl⟩;rw [WZ] at c0;have⟨HYV,HYN⟩:=AQ hyv Ti;have sq:q<wr.heap.size:=by have:=HWB.out.size;omega
   have i1:(k:Int)<(n:Int):=by omega
   clear hb hy hyv hzv hy1 hy2 Ti WZ htn;go_upto_region 6 with fail;obtain⟨q8,hq8⟩:∃q,wr.heap.size=q:=⟨_,rfl⟩;obtain⟨X,hX⟩:=A8 (wr.alloc (.cells #[.int .i64 yh,.slice YA yn iY,.slice TA tn uz,.int .i64 p1] 46));rw [hX,hq8];have bX:Below wr.heap.size wr X:=hX▸(AV _ _).alloc (AH _) _;have k8:X.heap[q8]?=some (.cells #[.int .i64 yh,.slice YA yn iY,.slice TA tn uz,.int .i64 p1] 46 (0,0)):=by rw [←hq8,← hX];exact AY _ _
   obtain⟨z0,z1,-,-,z4⟩:=FY k8;have Ws:Below V.heap.size V X:=HW.out.trans (bX.mono hsz);obtain⟨y0,y1,-,-,y4⟩:=FY ((Ws.block q6 lq6).trans K6.out);have ZO:Below w.heap.size w X:=B1.out.trans (Ws.mono B1.out.size);have⟨HVX,HWX⟩:=AQ Ws ZO;have sqX:q<X.heap.size:=by have:=ZO.size;omega
   have hsX:=Ws.size;have vG:=A3 (fun (W:World) (hW:Below X.heap.size X W)=>asa (.slice YA yn iY) (.slice BA bn GF) y.bl x.bl W (by have:=(HYV.out.below ZO).below hW;rw [HYN.out] at this;exact this) (by have:=(Hl.out.below ZO).below hW;rw [VY.out] at this;exact this));clear bX k8 hX hq8 c0 c1 c2 c3 Ws ZO sq;by_cases hh:yh=xh
   ·have e1:(yh==xh)=true:=Vu.2 hh
    go_wp2_with fail;go_roundw;case rel=>exact⟨k+1,best,by omega,ZC,by go_num,rfl,HVX.out⟩
    case measure=>exact Ai
   ·have e1:(yh==xh)=false:=Me.2 hh
    by_cases hl:yn<bn
    ·have e2:decide ((yn:Int)<(bn:Int))=true:=Ac A0
     have e3:decide (yn<bn)=true:=Ac hl;go_wp2_with fail;go_roundw;case rel=>exact⟨k+1,best,by omega,ZC,by go_num,rfl,HVX.out⟩
     case measure=>exact Ai
    ·have e2:decide ((yn:Int)<(bn:Int))=false:=Ad A0
     have e3:decide (yn<bn)=false:=Ad hl;have HBE:=A3 ZC;by_cases hneg:best<0
     ·have e4:decide ((0:Int)≤best)=false:=Ad A0
      clear ZC;go_upto_region 7 with fail;refine C7 A4 A4 ?_;repeat (go_big_quiet_step (fail))
      refine BD ?_;rintro _ ⟨s,rfl⟩;have QT:=s.h.size;have a1:=s.cell q8 1 z4;have a2:=s.cell q6 1 y4;rw [z1] at a1;rw [y1] at a2;have sl1:q8<s.w.heap.size:=by omega
      have sl2:q6<s.w.heap.size:=by omega
      clear z0 z1 y0 y1;go_wp2_with (go_at_call 74;refine (vG.out s.w s.h).mono ?_;rintro e W9 ⟨⟨r,rfl⟩,hb9⟩);all_goals have HV9:=A3 (HVX.out.trans ((s.h.trans (hb9.mono s.h.size)).mono hsX))
      all_goals go_roundw
      case rel=>exact⟨k+1,(k:Int),by omega,.inr ⟨by omega,by omega⟩,by go_num,rfl,HV9.out⟩
      case measure=>exact Ai
      case rel=>exact⟨k+1,best,by omega,HBE.out,by go_num,rfl,HV9.out⟩
      case measure=>exact Ai
     ·obtain⟨m,rfl⟩:∃m:Nat,best=(m:Int):=⟨best.toNat,by omega⟩
      have hmn:m<n:=by omega
      have e4:decide ((0:Int)≤(m:Int))=true:=Ac A0;obtain⟨z,hz⟩:∃x,L[m]?=some x:=⟨_,Ab (by rw [HN.out];exact hmn)⟩;obtain⟨-,⟨uv,c1,huv⟩,-,-⟩:=(HC.out m z hz).below HWX.out hq;obtain⟨UA,auC,rfl,-,-⟩:=huv.slice;obtain⟨un,hun⟩:∃n,z.bl.length=n:=⟨_,rfl⟩;rw [hun] at c1;have i2:(m:Int)<(n:Int):=by omega
      clear ZC hz huv hun hneg;by_cases hu:un≤yn
      ·have e5:decide ((un:Int)≤(yn:Int))=true:=Ac A0
       have e6:decide (un≤yn)=true:=Ac hu;go_upto_region 7 with fail;refine C7 A4 A4 ?_;repeat (go_big_quiet_step (fail))
       refine BD ?_;rintro _ ⟨s,rfl⟩;have QT:=s.h.size;have a1:=s.cell q8 1 z4;have a2:=s.cell q6 1 y4;rw [z1] at a1;rw [y1] at a2;have sl1:q8<s.w.heap.size:=by omega
       have sl2:q6<s.w.heap.size:=by omega
       clear z0 z1 y0 y1;clear c1;go_wp2_with fail;go_roundw;case rel=>exact⟨k+1,(m:Int),by omega,HBE.out,by go_num,rfl,HVX.out.trans (s.h.mono hsX)⟩
       case measure=>exact Ai
      ·have e5:decide ((un:Int)≤(yn:Int))=false:=Ad A0
       have e6:decide (un≤yn)=false:=Ad hu;go_upto_region 7 with fail;refine C7 A4 A4 ?_;repeat (go_big_quiet_step (fail))
       refine BD ?_;rintro _ ⟨s,rfl⟩;have QT:=s.h.size;have a1:=s.cell q8 1 z4;have a2:=s.cell q6 1 y4;rw [z1] at a1;rw [y1] at a2;have sl1:q8<s.w.heap.size:=by omega
       have sl2:q6<s.w.heap.size:=by omega
       clear z0 z1 y0 y1;clear c1;go_wp2_with (go_at_call 74;refine (vG.out s.w s.h).mono ?_;rintro e W9 ⟨⟨r,rfl⟩,hb9⟩);all_goals have HV9:=A3 (HVX.out.trans ((s.h.trans (hb9.mono s.h.size)).mono hsX))
       all_goals go_roundw
       case rel=>exact⟨k+1,(k:Int),by omega,.inr ⟨by omega,by omega⟩,by go_num,rfl,HV9.out⟩
       case measure=>exact Ai
       case rel=>exact⟨k+1,(m:Int),by omega,HBE.out,by go_num,rfl,HV9.out⟩
       case measure=>exact Ai
  ·obtain rfl:n=k:=by omega
   have dl:decide ((n:Int)<(n:Int))=false:=by simp
   clear hb;go_wp2_with fail;go_ret;exact⟨⟨best,rfl⟩,HWB.out⟩
section
open Go.RowKit Go.Maps Go.Sort Go.Shelf Go.MapKept Go.ChangeMaps
def mR:Go.Shelf.Ren:=⟨fun|7=>73|10=>99|n=>n,fun|23=>99|26=>3|3=>4|28=>113|0=>0|27=>112|33=>155|4=>4|n=>n,fun|n=>n⟩
theorem vZ:Go.Proofs.SlLaysZI.n7 Tryz.prog mR:={
  mixed:=by kernel_rfl
  f7:=⟨Tryz.f73.name,by decide,Tryz.func73.trans (congrArg some A4)⟩
  f10:=⟨Tryz.f99.name,by decide,Tryz.func99.trans (congrArg some A4)⟩
  t0:=eT
  a0:=Tryz.isAgg0
  z0:=gu
  v0:=jF
  t4:=YH
  a4:=Tryz.isAgg4
  z4:=kK
  v4:=iZ
  t23:=N4
  a23:=Tryz.isAgg99
  z23:=Tryz.sizeOf99
  v23:=Tryz.zeroValue99
  t26:=Db
  a26:=YR
  z26:=Y8
  v26:=YB
  t27:=Tryz.underlying112
  a27:=Tryz.isAgg112
  z27:=Tryz.sizeOf112
  v27:=Tryz.zeroValue112
  t28:=pK
  a28:=Tryz.isAgg113
  z28:=Tryz.sizeOf113
  v28:=nM
  t33:=Tryz.underlying155
  a33:=Tryz.isAgg155
  z33:=Tryz.sizeOf155
  v33:=Tryz.zeroValue155 }
def keysL_ren:Go.Shelf.Ren:=⟨fun|7=>41|10=>71|n=>n,fun|23=>107|26=>3|3=>38|28=>113|0=>0|27=>112|33=>155|4=>4|n=>n,fun|n=>n⟩
theorem keysL:Go.Proofs.SlLaysZI.n7 Tryz.prog keysL_ren:={
  mixed:=by kernel_rfl
  f7:=⟨Tryz.f41.name,by decide,Tryz.func41.trans (congrArg some A4)⟩
  f10:=⟨Tryz.f71.name,by decide,Tryz.func71.trans (congrArg some A4)⟩
  t0:=eT
  a0:=Tryz.isAgg0
  z0:=gu
  v0:=jF
  t4:=YH
  a4:=Tryz.isAgg4
  z4:=kK
  v4:=iZ
  t23:=jZ
  a23:=Tryz.isAgg107
  z23:=Tryz.sizeOf107
  v23:=Tryz.zeroValue107
  t26:=Db
  a26:=YR
  z26:=Y8
  v26:=YB
  t27:=Tryz.underlying112
  a27:=Tryz.isAgg112
  z27:=Tryz.sizeOf112
  v27:=Tryz.zeroValue112
  t28:=pK
  a28:=Tryz.isAgg113
  z28:=Tryz.sizeOf113
  v28:=nM
  t33:=Tryz.underlying155
  a33:=Tryz.isAgg155
  z33:=Tryz.sizeOf155
  v33:=Tryz.zeroValue155 }
def qH:Go.Shelf.Ren:=⟨fun|6=>40|8=>69|9=>70|11=>96|13=>98|12=>97|23=>125|24=>126|14=>116|15=>117|16=>118|17=>119|18=>120|19=>121|20=>122|21=>123|22=>124|25=>137|26=>138|27=>139|28=>140|29=>141|30=>142|31=>151|n=>n,fun|26=>3|28=>113|24=>38|0=>0|3=>3|37=>129|48=>70|50=>206|4=>4|40=>200|39=>199|45=>47|5=>5|9=>9|51=>213|55=>135|57=>218|58=>133|33=>155|n=>n,fun|n=>n⟩
theorem nX:Go.Proofs.SlLaysZI.n6 Tryz.prog qH:={
  mixed:=by kernel_rfl
  f6:=⟨Tryz.f40.name,by decide,Tryz.func40.trans (congrArg some A4)⟩
  f8:=⟨Tryz.f69.name,by decide,Tryz.func69.trans (congrArg some A4)⟩
  f11:=⟨Tryz.f96.name,by decide,Tryz.func96.trans (congrArg some A4)⟩
  t0:=eT
  a0:=Tryz.isAgg0
  z0:=gu
  v0:=jF
  t24:=JJ
  a24:=Tryz.isAgg38
  z24:=Tryz.sizeOf38
  v24:=oD
  t26:=Db
  a26:=YR
  z26:=Y8
  v26:=YB
  t28:=pK
  a28:=Tryz.isAgg113
  z28:=Tryz.sizeOf113
  v28:=nM
  i26:=by kernel_rfl }
def aqz:Go.Shelf.Ren:=⟨fun|5=>70|8=>98|7=>97|19=>125|20=>126|10=>116|11=>117|12=>118|13=>119|14=>120|15=>121|16=>122|17=>123|18=>124|30=>137|31=>138|32=>139|33=>140|34=>141|35=>142|40=>151|n=>n,fun|23=>38|25=>3|3=>3|32=>129|22=>38|0=>0|44=>70|46=>206|4=>4|36=>200|35=>199|41=>47|5=>5|9=>9|53=>213|57=>135|63=>218|64=>133|n=>n,fun|n=>n⟩
theorem nt:Go.Proofs.SlLaysM.n5 Tryz.prog aqz:={
  mixed:=by kernel_rfl
  f5:=⟨Tryz.f70.name,by decide,Tryz.func70.trans (congrArg some A4)⟩
  f7:=⟨Tryz.f97.name,by decide,Tryz.func97.trans (congrArg some A4)⟩
  f8:=Tryz.func98.trans (congrArg some A4)
  f10:=⟨Tryz.f116.name,by decide,Tryz.func116.trans (congrArg some A4)⟩
  f11:=⟨Tryz.f117.name,by decide,Tryz.func117.trans (congrArg some A4)⟩
  f12:=⟨Tryz.f118.name,by decide,Tryz.func118.trans (congrArg some A4)⟩
  f13:=⟨Tryz.f119.name,by decide,Tryz.func119.trans (congrArg some A4)⟩
  f14:=⟨Tryz.f120.name,by decide,Tryz.func120.trans (congrArg some A4)⟩
  f15:=⟨Tryz.f121.name,by decide,Tryz.func121.trans (congrArg some A4)⟩
  f16:=⟨Tryz.f122.name,by decide,Tryz.func122.trans (congrArg some A4)⟩
  f17:=⟨Tryz.f123.name,by decide,Tryz.func123.trans (congrArg some A4)⟩
  f18:=⟨Tryz.f124.name,by decide,Tryz.func124.trans (congrArg some A4)⟩
  f19:=Tryz.func125.trans (congrArg some A4)
  f20:=Tryz.func126.trans (congrArg some A4)
  f30:=⟨Tryz.f137.name,by decide,Tryz.func137.trans (congrArg some A4)⟩
  f31:=Tryz.func138.trans (congrArg some A4)
  f32:=Tryz.func139.trans (congrArg some A4)
  f33:=⟨Tryz.f140.name,by decide,Tryz.func140.trans (congrArg some A4)⟩
  f34:=⟨Tryz.f141.name,by decide,Tryz.func141.trans (congrArg some A4)⟩
  f35:=⟨Tryz.f142.name,by decide,Tryz.func142.trans (congrArg some A4)⟩
  f40:=⟨Tryz.f151.name,by decide,Tryz.func151.trans (congrArg some A4)⟩
  t0:=eT
  a0:=Tryz.isAgg0
  z0:=gu
  v0:=jF
  t3:=Db
  a3:=YR
  z3:=Y8
  v3:=YB
  t4:=YH
  a4:=Tryz.isAgg4
  z4:=kK
  v4:=iZ
  t5:=lN
  a5:=Tryz.isAgg5
  z5:=Tryz.sizeOf5
  v5:=Tryz.zeroValue5
  t9:=XE
  a9:=Tryz.isAgg9
  z9:=Tryz.sizeOf9
  v9:=Tryz.zeroValue9
  t22:=JJ
  a22:=Tryz.isAgg38
  z22:=Tryz.sizeOf38
  v22:=oD
  t23:=JJ
  a23:=Tryz.isAgg38
  z23:=Tryz.sizeOf38
  v23:=oD
  t25:=Db
  a25:=YR
  z25:=Y8
  v25:=YB
  t32:=Tryz.underlying129
  a32:=Tryz.isAgg129
  z32:=Tryz.sizeOf129
  v32:=Tryz.zeroValue129
  t35:=Tryz.underlying199
  a35:=Tryz.isAgg199
  z35:=Tryz.sizeOf199
  v35:=Tryz.zeroValue199
  t36:=Tryz.underlying200
  a36:=Tryz.isAgg200
  z36:=Tryz.sizeOf200
  v36:=Tryz.zeroValue200
  t41:=Tryz.underlying47
  a41:=Tryz.isAgg47
  z41:=Tryz.sizeOf47
  v41:=Tryz.zeroValue47
  t44:=tE
  a44:=Tryz.isAgg70
  z44:=Tryz.sizeOf70
  v44:=Tryz.zeroValue70
  t46:=Tryz.underlying206
  a46:=Tryz.isAgg206
  z46:=Tryz.sizeOf206
  v46:=Tryz.zeroValue206
  t53:=Tryz.underlying213
  a53:=Tryz.isAgg213
  z53:=Tryz.sizeOf213
  v53:=Tryz.zeroValue213
  t57:=Tryz.underlying135
  a57:=Tryz.isAgg135
  z57:=Tryz.sizeOf135
  v57:=Tryz.zeroValue135
  t63:=Tryz.underlying218
  a63:=Tryz.isAgg218
  z63:=Tryz.sizeOf218
  v63:=Tryz.zeroValue218
  t64:=Tryz.underlying133
  a64:=Tryz.isAgg133
  z64:=Tryz.sizeOf133
  v64:=Tryz.zeroValue133 }
theorem qq (m:Nat):AnyZI.SortsIn Tryz.prog qH Fence.wide m:=
  ⟨fun blk off cap ss W hH hblk hsz=>ZE.2 (AnyM.slices_Sort_int nt blk off cap ss W hH hblk hsz),
   fun p cap W=>ZE.2 (AnyM.slices_Sort_int_none nt p cap W)⟩
theorem atv (mb:Option Nat) (W:World):Calls Tryz.prog 73 #[.map mb] W fun e w'=>e=.returned (.func (.func 99) #[] #[.pointer (some ⟨W.heap.size,0,none⟩)])∧w'=W.alloc (.cells #[.map mb] 99):=
  (ZE (n:=5)).1 (AnyZI.keys_in vZ Fence.wide 5 trivial rfl mb W)
theorem ae9 (mb:Option Nat) (W:World):Calls Tryz.prog 41 #[.map mb] W fun e w'=>e=.returned (.func (.func 71) #[] #[.pointer (some ⟨W.heap.size,0,none⟩)])∧w'=W.alloc (.cells #[.map mb] 107):=
  (ZE (n:=5)).1 (AnyZI.keys_in keysL Fence.wide 5 trivial rfl mb W)
def Ui:Value→Int
  | .int _ a=>a
  | _=>0
def XG:Value→Option (DataW Unit×List MemPlace):=fun _=>some (.nil,[])
theorem oO {n:Nat} {l:List Int} (h:l.Nodup) (hl:∀x∈l,0≤x∧x<(n:Int)):l.length≤n:=by
  have h1:(l.map Int.toNat).Nodup:=by
    unfold List.Nodup;rw [ku];refine h.imp_of_mem fun {a b} ha hb hne e=>hne ?_;have:=hl a ha;have:=hl b hb;omega
  have h2:=Pz (n:=n) h1 fun x hx=>by
    obtain⟨y,hy,rfl⟩:=C5.1 hx;have:=hl y hy;omega
  simpa using h2
theorem Im.own {w:World} {b:Nat} {f:Int→Option Value} (h:Im w b f) (N:Nat) (hN:∀k v,f k=some v→0≤k∧k<(N:Int)) (hN5:N≤1000000) :
    ∃(ks:List Int) (D0:DataW Unit),ks.Nodup∧(∀x,x∈ks↔f x≠none)∧w.ownsMap Tryz.prog 3 XG b N D0∧(intKeys D0).Perm ks∧Maps.size D0=ks.length∧ks.length≤N:=by
  obtain⟨es,clock,hb,q⟩:=h;have hst:=(stamped_iff es clock).1 q.stamped;have hrd:∀x∈es.toList,∃k,Qv k∧x.key=kv k∧f k=some x.val∧Go.WideElems.rg Tryz.prog 3 XG x=(.int .i64 k,.nil):=fun x hx=>by
    obtain⟨k,h1,h2,h3⟩:=q.vals x hx;refine⟨k,h1,h2,h3,?_⟩;have:=Sr (P:=Tryz.prog) (kt:=3) Db h1;simp [Go.WideElems.rg,Go.WideElems.rd,h2,this,XG]
  have hnd:(es.toList.map fun x=>Ui x.key).Nodup:=by
    unfold List.Nodup;rw [ku];refine hst.2.2.imp_of_mem fun {a c} ha hc hne e=>hne ?_;obtain⟨k,_,h2,_⟩:=hrd a ha;obtain⟨k',_,h2',_⟩:=hrd c hc;rw [h2,h2'] at e ⊢;simp only [Ui,kv] at e;rw [e]
  have hmem:∀x,x∈es.toList.map (fun x=>Ui x.key)↔f x≠none:=fun x=>by
    rw [C5];constructor
    · rintro⟨y,hy,rfl⟩
      obtain⟨k,_,h2,h3,_⟩:=hrd y hy;rw [h2];simp [Ui,kv,h3]
    · intro hx
      obtain⟨v,hv⟩:=Option.ne_none_iff_exists'.1 hx;obtain⟨y,hy,e⟩:=q.rest x v hv;exact⟨y,hy,by rw [e];rfl⟩
  have hlen:(es.toList.map fun x=>Ui x.key).length≤N:=oO hnd fun x hx=>by
    obtain⟨v,hv⟩:=Option.ne_none_iff_exists'.1 ((hmem x).1 hx);exact hN x v hv
  have hsz:es.size≤N:=by simpa using hlen
  have hperm:=Go.WideShapes.sorted_perm (es.toList.map (Go.WideElems.rg Tryz.prog 3 XG));refine⟨_,_,hnd,hmem,⟨es,clock,hb,⟨by unfold maxLen;omega,q.stamped,fun x hx=>?_⟩,hsz,rfl⟩,?_,?_,hlen⟩
  · obtain⟨k,h1,h2,_⟩:=hrd x hx
    have:=Sr (P:=Tryz.prog) (kt:=3) Db h1;exact⟨_,by simp [Go.WideElems.rd,h2,this,XG];rfl⟩
  · have:=hperm.map fun p=>Go.intOf p.1
    rw [List.map_map] at this;refine List.Perm.trans this (List.Perm.of_eq (SI fun x hx=>?_));obtain⟨k,_,h2,_,h4⟩:=hrd x hx;simp only [Function.comp,h4,h2,Ui,kv];rfl
  · show List.length _=_
    rw [hperm.length_eq];simp
theorem jv {w:World} {base base':Nat} {e:TypeId} {size:Nat} {v:Value} {n:Nat} {xs:List Value} (h:w.ownsRow base e size v n xs) (hb:base'≤base):w.ownsRow base' e size v n xs:=by
  refine⟨h.1,?_⟩;rcases h.2 with h2|⟨g,cap,cur,h2,h3,h4⟩
  · exact .inl h2
  · exact .inr ⟨g,cap,cur,h2,FK hb h3,h4⟩
structure dB (f:Int→Option Value) (l:List Int):Prop where
  Ry:l.Pairwise (· < ·)
  mem:∀x,x∈l↔f x≠none
theorem qj {ks ss:List Int} {f:Int→Option Value} (hn:ks.Nodup) (hm:∀x,x∈ks↔f x≠none) (hp:ss.Perm ks):dB f (ss.mergeSort fun x y=>decide (x≤y)):=by
  have hps:=(List.mergeSort_perm ss fun x y=>decide (x≤y)).trans hp;refine⟨?_,fun x=>(hps.mem_iff).trans (hm x)⟩;have h1:(ss.mergeSort fun x y=>decide (x≤y)).Pairwise fun x y=>decide (x≤y)=true:=List.pairwise_mergeSort (fun a b c h1 h2=>by simp only [E4] at *;omega) (fun a b=>by simp only [Yu,E4];omega) ss;have h2:(ss.mergeSort fun x y=>decide (x≤y)).Nodup:=hps.nodup_iff.2 hn;refine (h1.and h2).imp fun {a b} ⟨h3,h4⟩=>?_;have:=JB h3;omega
theorem aqn (b q N:Nat) (f:Int→Option Value) (w:World) (hM:Im w b f) (hN:∀k v,f k=some v→0≤k∧k<(N:Int)) (hN5:N≤1000000) (hq:q<w.heap.size) (hc:w.cell? ⟨q,0,none⟩=some (.map (some b))) :
    Calls Tryz.prog 40 #[.func (.func 99) #[] #[.pointer (some ⟨q,0,none⟩)]] w fun e w'=>∃v l,e=.returned v∧w'.ownsRow w.heap.size 3 1 v l.length (Aq l)∧dB f l∧Below w.heap.size w w':=by
  obtain⟨ks,D0,h1,h2,hown,h3,h4,h5⟩:=hM.own N hN hN5;have hseq:SeqGives Fence.wide 2 Tryz.prog 99 #[.pointer (some ⟨q,0,none⟩)] encZ (fun ss=>ss.Perm (intKeys D0)) (Maps.size D0) w:=
    AnyZI.keys_gives (ρ:=mR) { vZ with } Fence.wide _ trivial rfl A0 q b N D0 _ hq hc hown
  have cS:=AnyZI.sorted_in nX Fence.wide 5 trivial trivial trivial trivial rfl A0 (qq _) (enters_of Tryz.func70 A4 rfl) 99 #[.pointer (some ⟨q,0,none⟩)] trivial (enters_of Tryz.func99 A4 rfl) _ _ (by rw [h4];unfold maxLen;omega) (by rw [h4];omega) w hseq;refine ((ZE (n:=5)).1 cS).mono ?_;rintro e w' ⟨v,ss,rfl,hS,hrow,hnil,hb⟩;refine⟨v,_,rfl,?_,qj h1 h2 (List.Perm.trans hS h3),hb⟩;have e1:(ss.mergeSort fun x y=>decide (x≤y)).length=ss.length:=List.length_mergeSort ..;rw [←e1] at hrow;exact hrow
theorem apA (b q N:Nat) (f:Int→Option Value) (w:World) (hM:Im w b f) (hN:∀k v,f k=some v→0≤k∧k<(N:Int)) (hN5:N≤1000000) (hq:q<w.heap.size) (hc:w.cell? ⟨q,0,none⟩=some (.map (some b))) :
    Calls Tryz.prog 40 #[.func (.func 71) #[] #[.pointer (some ⟨q,0,none⟩)]] w fun e w'=>∃v l,e=.returned v∧w'.ownsRow w.heap.size 3 1 v l.length (Aq l)∧dB f l∧Below w.heap.size w w':=by
  obtain⟨ks,D0,h1,h2,hown,h3,h4,h5⟩:=hM.own N hN hN5;have hseq:SeqGives Fence.wide 2 Tryz.prog 71 #[.pointer (some ⟨q,0,none⟩)] encZ (fun ss=>ss.Perm (intKeys D0)) (Maps.size D0) w:=
    AnyZI.keys_gives (ρ:=keysL_ren) { keysL with } Fence.wide _ trivial rfl A0 q b N D0 _ hq hc hown
  have cS:=AnyZI.sorted_in nX Fence.wide 5 trivial trivial trivial trivial rfl A0 (qq _) (enters_of Tryz.func70 A4 rfl) 71 #[.pointer (some ⟨q,0,none⟩)] trivial (enters_of Tryz.func71 A4 rfl) _ _ (by rw [h4];unfold maxLen;omega) (by rw [h4];omega) w hseq;refine ((ZE (n:=5)).1 cS).mono ?_;rintro e w' ⟨v,ss,rfl,hS,hrow,hnil,hb⟩;refine⟨v,_,rfl,?_,qj h1 h2 (List.Perm.trans hS h3),hb⟩;have e1:(ss.mergeSort fun x y=>decide (x≤y)).length=ss.length:=List.length_mergeSort ..;rw [←e1] at hrow;exact hrow
end
section
open Classical in
noncomputable def G8 (S:Nat→Prop):Int→Option Value:=fun k=>if 0≤k∧S k.toNat then some (.bool true) else none
theorem asZ {S:Nat→Prop} {b:Nat} (h:S b):G8 S (b:Int)=some (.bool true):=by unfold G8;rw [A9 ⟨by omega,by rw [Cu];exact h⟩]
theorem ou {S:Nat→Prop} {b:Nat} (h:¬S b):G8 S (b:Int)=none:=by unfold G8;rw [A6];rintro⟨_,h2⟩;rw [Cu] at h2;exact h h2
theorem eH (S:Nat→Prop) (b:Nat):Ej (G8 S) (b:Int) (.bool true)=G8 (fun x=>S x∨x=b):=by
 funext k;unfold Ej G8;by_cases h:k=(b:Int)
 ·subst h
  rw [A9 rfl,A9 ⟨by omega,.inr (Cu b)⟩]
 ·rw [A6 h]
  by_cases h0:0≤k
  ·have:k.toNat≠b:=by omega
   by_cases hs:S k.toNat<;>simp [h0,this,hs]
  ·simp [h0]
theorem ar6 {S:Nat→Prop} {n:Nat} (h:∀x,S x→x<n):∀k v,G8 S k=some v→0≤k∧k<(n:Int):=fun k v hk=>by
 unfold G8 at hk;split at hk
 ·rename_i hc
  have:=h _ hc.2;omega
 ·cases hk
theorem xF {S:Nat→Prop} {x:Int}:G8 S x≠none↔0≤x∧S x.toNat:=by
 unfold G8;split
 ·rename_i h;simp [h]
 ·rename_i h;simp only [ne_eq,not_true_eq_false,false_iff];exact h
open Classical in
noncomputable def L8 (S:Nat→Prop) (l:List Nat):Nat:=l.countP fun x=>decide (¬S x)
theorem oU {S S':Nat→Prop} (h:∀x,S x→S' x) (l:List Nat):L8 S' l≤L8 S l:=by
 unfold L8;refine List.countP_mono_left fun x _ hx=>?_;simp only [E4] at hx ⊢;exact fun h1=>hx (h x h1)
noncomputable def Vc (n:Nat) (S:Nat→Prop):Nat:=L8 S (List.range n)
theorem aaj {n:Nat} {S S':Nat→Prop} (h:∀x,S x→S' x):Vc n S'≤Vc n S:=oU h _
theorem vM (S:Nat→Prop) (l m:List Nat):L8 S (l++m)=L8 S l+L8 S m:=by unfold L8;exact gv
theorem yY {S:Nat→Prop} {b:Nat} (h:S b) (l:List Nat):L8 S (b :: l)=L8 S l:=by unfold L8;rw [Tq,A6 (by simp [h])];rfl
theorem yB {S:Nat→Prop} {b:Nat} (h:¬S b) (l:List Nat):L8 S (b :: l)=L8 S l+1:=by unfold L8;rw [Tq,A9 (by simp [h])]
theorem qg {n b:Nat} {S:Nat→Prop} (hb:b<n) (h:¬S b):Vc n (fun x=>S x∨x=b)<Vc n S:=by
 unfold Vc;have e1:List.range n=List.range b++b :: (List.range' (b+1) (n - b - 1)):=by
  rw [List.range_eq_range',List.range_eq_range',show n=b+(1+(n - b - 1)) by omega,← List.range'_append_1,← List.range'_append_1];simp
 have le:=oU (S:=S) (S':=fun x=>S x∨x=b) fun x hx=>.inl hx;rw [e1,vM,vM,yB h,yY (S:=fun x=>S x∨x=b) (.inr rfl)];have h1:=le (List.range b);have h2:=le (List.range' (b+1) (n - b - 1));omega
structure Mc (w wr:World) (mq pq gq fq mb:Nat) (pv bv lv:Value) (S:Nat→Prop):Prop where
 AA:Below w.heap.size w wr
 kmq:wr.heap[mq]?=some (.cells #[.map (some mb)] 99 (0,0))
 MB:wr.heap[pq]?=some (.cells #[pv] 38 (0,0))
 Q7:wr.heap[gq]?=some (.cells #[bv,lv] 31 (0,0))
 Qc:wr.heap[fq]?=some (.cells #[.func (.func 72) #[] #[.pointer (some ⟨mq,0,none⟩),.pointer (some ⟨pq,0,none⟩),.pointer (some ⟨gq,0,none⟩),.pointer (some ⟨fq,0,none⟩)]] 152 (0,0))
 im:Im wr mb (G8 S)
 hi:w.heap.size≤mb
section
variable {w wr:World} {mq pq gq fq mb:Nat} {pv bv lv:Value} {S:Nat→Prop}
theorem Mc.put (h:Mc w wr mq pq gq fq mb pv bv lv S) (b:Nat) {w':World} (hm:Im w' mb (Ej (G8 S) (b:Int) (.bool true))) (ho:w'.os=wr.os) (ht:w'.tape=wr.tape) (hp:w'.output=wr.output) (hs:w'.heap.size=wr.heap.size) (hk:∀i,i≠mb→w'.heap[i]?=wr.heap[i]?):Mc w w' mq pq gq fq mb pv bv lv (fun x=>S x∨x=b):=by
 have ne:∀(q:Nat) (o:Array Value) (t:TypeId),wr.heap[q]?=some (.cells o t (0,0))→q≠mb:=fun q o t hq e=>by
  obtain⟨es,cl,h1,_⟩:=h.im;rw [e,h1] at hq;cases hq
 refine⟨h.AA.trans ⟨ho,ht,hp,by omega,fun k hk'=>hk k (by have:=h.hi;omega)⟩,(hk _ (ne _ _ _ h.kmq)).trans h.kmq,(hk _ (ne _ _ _ h.MB)).trans h.MB,(hk _ (ne _ _ _ h.Q7)).trans h.Q7,(hk _ (ne _ _ _ h.Qc)).trans h.Qc,?_,h.hi⟩;rw [←eH];exact hm
theorem Mc.cells (h:Mc w wr mq pq gq fq mb pv bv lv S):wr.cell? ⟨mq,0,none⟩=some (.map (some mb))∧wr.cell? ⟨pq,0,none⟩=some pv∧wr.cell? ⟨gq,1,none⟩=some lv∧wr.cell? ⟨fq,0,none⟩=some (.func (.func 72) #[] #[.pointer (some ⟨mq,0,none⟩),.pointer (some ⟨pq,0,none⟩),.pointer (some ⟨gq,0,none⟩),.pointer (some ⟨fq,0,none⟩)])∧mq<wr.heap.size∧pq<wr.heap.size∧gq<wr.heap.size∧fq<wr.heap.size:=
 ⟨by simp [World.cell?,h.kmq],by simp [World.cell?,h.MB],by simp [World.cell?,h.Q7],by simp [World.cell?,h.Qc],(Bl.1 h.kmq).1,(Bl.1 h.MB).1,(Bl.1 h.Q7).1,(Bl.1 h.Qc).1⟩
end
structure fO (w:World) (pk po n:Nat) (R:Nat→Prop):Prop where
 lt:pk<w.heap.size
 at_:∀k,k<n→∃x:Int,w.cell? ⟨pk,po+k,none⟩=some (.int .i64 x)∧(0≤x↔R k)
theorem uS (w:World):(zeroValue 4).run Tryz.prog w=.ok (.bool false) w:=by kernel_rfl
theorem wh {G:List AU} {P:List (List Int)} {R:Nat→Prop} (HV:Dm G P) (hn5:G.length≤5000) (w:World) (mq pq gq fq mb pk po B7:Nat) (bv lv:Value) (HP:Dk w lv P) (Iu:fO w pk po G.length R):∀(f b:Nat) (S:Nat→Prop) (wr:World),Mc w wr mq pq gq fq mb (.slice (some ⟨pk,po,none⟩) G.length B7) bv lv S→Vc G.length S≤f→b<G.length→
  Calls Tryz.prog 72 #[.int .i64 (b:Int),.pointer (some ⟨mq,0,none⟩),.pointer (some ⟨pq,0,none⟩),.pointer (some ⟨gq,0,none⟩),.pointer (some ⟨fq,0,none⟩)] wr fun e w'=>e=.returned (.tuple #[])∧∃S':Nat→Prop,Mc w w' mq pq gq fq mb (.slice (some ⟨pk,po,none⟩) G.length B7) bv lv S'∧Oh (Ck P) R b S S':=by
 have he:∀(args:Array Value) (w:World),(callFunc 72 args).run Tryz.prog w=.ok (.enter 72 args) w:=fun _ _=>by kernel_rfl
 obtain⟨PA,Sc,rfl,hp1,hp2⟩:=HP.slice;have⟨IM,OL,HPP,Iu⟩:=CU HV.len HV HP Iu;clear HP HV hp1 hp2;have seen:∀(b:Nat) (S:Nat→Prop) (wr:World),Mc w wr mq pq gq fq mb (.slice (some ⟨pk,po,none⟩) G.length B7) bv (.slice PA P.length Sc) S→S b→b<G.length→
   Calls Tryz.prog 72 #[.int .i64 (b:Int),.pointer (some ⟨mq,0,none⟩),.pointer (some ⟨pq,0,none⟩),.pointer (some ⟨gq,0,none⟩),.pointer (some ⟨fq,0,none⟩)] wr fun e w'=>e=.returned (.tuple #[])∧∃S':Nat→Prop,Mc w w' mq pq gq fq mb (.slice (some ⟨pk,po,none⟩) G.length B7) bv (.slice PA P.length Sc) S'∧Oh (Ck P) R b S S':=by
  intro b S wr hB hS DC;obtain⟨t1,t2,t3,t4,t5,t6,t7,t8⟩:=hB.cells;have WU:=A3 hB;have hl:=hB.im.Tc (P:=Tryz.prog) (kt:=3) (t:=99) (e:=4) Db N4 (asZ hS) false;simp only [kv,NJ,Lc] at hl;have HR:=A3 (show Oh (Ck P) R b S S from .skip (.inl hS));clear hB hS;go_enter Tryz.func72,Tryz.ntmps72;go_wp2_with fail;refine Af (Zu rfl _ _ _) rfl ⟨rfl,S,WU.out,HR.out⟩
 have SEEN:=A3 seen;clear seen;intro f;induction f with
 | zero=>
  intro b S wr hB Pk DC;refine SEEN.out b S wr hB (Sw fun hno=>?_) DC;have:=qg DC hno;omega
 | succ f ih=>
  intro b S wr hB Pk DC;obtain⟨t1,t2,t3,t4,t5,t6,t7,t8⟩:=hB.cells;have hsz:=hB.AA.size;have i1:(b:Int)<(G.length:Int):=by omega
  obtain⟨x,hx,hxr⟩:=Iu.out.at_ b DC;have spk:=Iu.out.lt;have x1:wr.cell? ⟨pk,po+b,none⟩=some (.int .i64 x):=(hB.AA.cell (p:=⟨pk,po+b,none⟩) spk).trans hx;have⟨WU,IH,NI⟩:=Bh hB ih Pk;clear ih Pk hx;by_cases hS:S b
  ·exact SEEN.out b S wr hB hS DC
  ·have hl:=hB.im.WH (P:=Tryz.prog) (kt:=3) (t:=99) (e:=4) Db N4 (uS wr) (JA (k:=(b:Int)) A0 A0) (ou hS) false
   simp only [kv,NJ,Lc] at hl;by_cases hx0:x<0
   ·have dx:decide (x<0)=true:=Ac hx0
    have HR:=A3 (show Oh (Ck P) R b S S from .skip (.inr fun hr=>by have:=hxr.2 hr;omega));clear hB hS;go_enter Tryz.func72,Tryz.ntmps72;go_wp2_with fail;refine Af (Zu rfl _ _ _) rfl ⟨rfl,S,WU.out,HR.out⟩
   ·have dx:decide (x<0)=false:=Ad hx0
    have HRB:=A3 (show R b from hxr.1 A0);obtain⟨W2,hput,hm2,o1,o2,o3,o4,o5⟩:=hB.im.put (P:=Tryz.prog) (kt:=3) (t:=99) (e:=4) Db N4 (k:=(b:Int)) (JA A0 A0) (.bool true);simp only [kv] at hput;have hB2:=hB.put b hm2 o1 o2 o3 o4 o5;have ND:=A3 hB2;obtain⟨-,-,u3,-,-,-,u7,-⟩:=hB2.cells;obtain⟨pl,hpl⟩:∃l,P.getD b []=l:=⟨_,rfl⟩;have ibP:(b:Int)<(P.length:Int):=by rw [IM.out];omega
    obtain⟨qk,qo,XV,sqk,lv,pc1,hlv⟩:∃qk qo,PA=some ⟨qk,qo,none⟩∧qk<w.heap.size∧∃lv,w.cell? ⟨qk,qo+b,none⟩=some lv∧Ints w lv pl:=by
     obtain⟨_,_,e1,_,_,e4⟩:=HPP.out;cases e1;have ZR:b<P.length:=by omega
     obtain⟨pk,po,e5,e6,e7⟩:=e4 A0;obtain⟨lv,e8,e9⟩:=e7 b _ (Ab ZR);refine⟨pk,po,e5,e6,lv,e8,?_⟩;rw [←hpl,List.getD,Ab ZR];exact e9
    subst XV;obtain⟨LA,lc2,rfl,hl1,hl2⟩:=hlv.slice;have pc2:W2.cell? ⟨qk,qo+b,none⟩=some (.slice LA pl.length lc2):=(hB2.AA.cell (p:=⟨qk,qo+b,none⟩) sqk).trans pc1;have sqw:qk<W2.heap.size:=by have:=hB2.AA.size;omega
    have⟨HLV,ZJ,TF,HNS⟩:=CU hlv (fun p=>bF (p:=p) OL.out DC) hpl hS;clear hB hB2 hS hlv hpl pc1 hm2 o1 o2 o3 o4 o5 hxr hx0;go_enter Tryz.func72,Tryz.ntmps72;go_upto_region 3 with fail;clear pc2 sqw u3 u7 t1 t2 t3 t4 t5 t6 t7 t8 hl hput x1;go_loopw [26] (fun a26 wr=>∃(j:Nat) (S':Nat→Prop),j≤pl.length∧a26=.int .i64 (j:Int)∧Mc w wr mq pq gq fq mb (.slice (some ⟨pk,po,none⟩) G.length B7) bv (.slice (some ⟨qk,qo,none⟩) P.length Sc) S'∧PT (Ck P) R ((Ck P b).take j) (fun x=>S x∨x=b) S') (fun a26 _=>pl.length - (intOf a26).toNat);case atStart=>exact⟨0,_,Ca _,rfl,ND.out,.nil⟩
    case round=>
     clear ND;obtain⟨j,S',hj,rfl,hB,KH⟩:=hrel;obtain⟨t1,t2,t3,t4,t5,t6,t7,t8⟩:=hB.cells;have⟨T6,HVS⟩:=AQ hB KH;by_cases hlt:j<pl.length
     ·have dl:decide ((j:Int)<(pl.length:Int))=true:=Ac A0
      obtain⟨pv0,lb,lo,hs,TE,Z8,lc⟩:=HLV.out.at_ hB.AA hlt;subst TE;have hpv:=(ZJ.out 0).2 pv0 (by rw [TF.out];exact Bj hs);obtain⟨p,rfl⟩:∃p:Nat,pv0=(p:Int):=⟨pv0.toNat,by omega⟩;have I3:p<G.length:=by omega
      have CT:=A3 (show (Ck P b).take (j+1)=(Ck P b).take j++[p] by
       have:(Ck P b)[j]?=some p:=by unfold Ck;rw [TF.out,D8,hs];rfl
       rw [I6,this];rfl)
      have U0:=A3 (IH.out p S' wr hB (by
       have h1:=qg DC HNS.out;have h2:=aaj (n:=G.length) KH.grow;have h3:=NI.out
       omega) I3)
      clear hB KH hs hpv;go_wp2_with (go_at_call 72;refine U0.out.mono ?_;rintro e W7 ⟨rfl,S7,hB7,hV7⟩);go_roundw;case rel=>exact⟨j+1,S7,by omega,by go_num,hB7,by rw [CT.out];exact HVS.out.snoc hV7⟩
      case measure=>exact Ai
     ·obtain rfl:j=pl.length:=by omega
      have dl:decide ((pl.length:Int)<(pl.length:Int))=false:=by simp
      have HR:=A3 (show Oh (Ck P) R b S S' from .of HRB.out HNS.out (by
       have e:(Ck P b).take pl.length=Ck P b:=K8 (by unfold Ck;rw [TF.out,FQ];exact AH _);rw [e] at KH
       exact KH))
      clear hB KH;go_wp2_with fail;refine bodyPost_end (Zu rfl _ _ _) rfl ⟨rfl,S',T6.out,HR.out⟩
end
structure XL (pv:Nat→List Nat) (R:Nat→Prop) (h:Nat) (Cj:List Nat) (l:List Int):Prop where
 Ry:l.Pairwise (· < ·)
 mem:∀x,x∈l↔0≤x∧Ic pv R h Cj x.toNat
theorem asU {G:List AU} {P:List (List Int)} {R:Nat→Prop} (HV:Dm G P) (hn5:G.length≤5000) (hR:∀x,R x→x<G.length) (w:World) (pk po B7 h:Nat) (bv lv vp:Value) (Cj:List Nat) (HP:Dk w lv P) (Iu:fO w pk po G.length R) (HL:Ints w vp (Bg Cj)) (hh:h<G.length) (hRh:R h) (ue:∀l∈Cj,l<G.length) :
  Calls Tryz.prog 42 #[.agg #[bv,lv],.int .i64 (h:Int),vp,.slice (some ⟨pk,po,none⟩) G.length B7] w fun e w'=>∃v l,e=.returned v∧w'.ownsRow w.heap.size 3 1 v l.length (Aq l)∧XL (Ck P) R h Cj l∧Below w.heap.size w w':=by
 have mk:=fun W:World=>(show (Instr.makeMap 99 none).run Tryz.prog W=.ok (.map (some W.heap.size)) (W.alloc (.map #[] 0)) from rfl);have he:∀(args:Array Value) (w:World),(callFunc 72 args).run Tryz.prog w=.ok (.enter 72 args) w:=fun _ _=>by kernel_rfl
 obtain⟨LA,Sc,rfl,hl1,hl2⟩:=HL.slice;obtain⟨PA,MA,rfl,-,-⟩:=HP.slice;obtain⟨m,hm⟩:=A8 ((Bg Cj).length);rw [hm] at hl1 ⊢;have HM:=A3 hm;obtain⟨pn,I3⟩:∃m,P.length=m:=⟨_,rfl⟩;rw [I3];have OL:=A3 HV;have HPP:=A3 (show Dk w (.slice PA pn MA) P by rw [←I3];exact HP);have⟨aly,M0,HLT⟩:=Bh Iu HL ue;obtain⟨gq,ME⟩:∃q,w.heap.size=q:=⟨_,rfl⟩;obtain⟨pq,hpq⟩:∃q,gq+1=q:=⟨_,rfl⟩;obtain⟨mb,hmb⟩:∃q,pq+1=q:=⟨_,rfl⟩;obtain⟨W1,hW1⟩:∃V,w.alloc (.cells #[bv,.slice PA pn MA] 31)=V:=⟨_,rfl⟩;obtain⟨W2,hW2⟩:∃V,W1.alloc (.cells #[.slice (some ⟨pk,po,none⟩) G.length B7] 38)=V:=⟨_,rfl⟩;have s1:W1.heap.size=w.heap.size+1:=by rw [←hW1];simp
 have s2:W2.heap.size=w.heap.size+1+1:=by rw [←hW2,F9,s1]
 obtain⟨W3,hput,hm3,o1,o2,o3,o4,o5⟩:=(Im.made W2).put (P:=Tryz.prog) (kt:=3) (t:=99) (e:=4) Db N4 (k:=(h:Int)) (JA A0 A0) (.bool true);have hb2:Below w.heap.size w W2:=hW2▸(hW1▸(AV _ _).alloc (AH _) _:Below w.heap.size w W1).alloc A0 _;have hb3:Below w.heap.size w W3:=(hb2.alloc A0 (.map #[] 0)).trans ⟨o1,o2,o3,by rw [o4];exact AH _,fun k hk=>o5 k A0⟩;have es2:W2.heap.size=mb:=by rw [s2,ME,hpq,hmb]
 have e3:W3.heap.size=mb+1:=by rw [o4,F9,es2]
 have k1:W3.heap[gq]?=some (.cells #[bv,.slice PA pn MA] 31 (0,0)):=by
  rw [o5 gq A0,Bv _ _ A0,← hW2,Bv _ _ A0,← hW1,← ME];exact AY _ _
 have k2:W3.heap[pq]?=some (.cells #[.slice (some ⟨pk,po,none⟩) G.length B7] 38 (0,0)):=by
  rw [o5 pq A0,Bv _ _ A0,← hW2,← hpq,← ME,← s1];exact AY _ _
 have sL:Im W3 mb (G8 (fun x=>x=h)):=by
  rw [←es2];have e:Ej (fun _=>none) (h:Int) (.bool true)=G8 (fun x=>x=h):=by
   have:=eH (fun _=>False) h;rw [show G8 (fun _=>False)=fun _=>none by funext k;simp [G8]] at this;rw [this];congr 1;funext x;simp
  rw [←e];exact hm3
 simp only [kv,es2] at hput;have⟨K1,K2,M3,B3⟩:=CU k1 k2 sL hb3;clear es2 HV HP Iu HL ue hm I3 hm3 sL o1 o2 o3 o4 o5 k1 k2 hb2 hb3;go_enter Tryz.func42,Tryz.ntmps42;go_upto_region 2 with fail;obtain⟨mq,Sv⟩:∃q,mb+1=q:=⟨_,rfl⟩;obtain⟨V4,Fv⟩:∃V,W3.alloc (.cells #[.map (some mb)] 99)=V:=⟨_,rfl⟩;rw [Fv,Sv];obtain⟨fq,VZ⟩:∃q,V4.heap.size=q:=⟨_,rfl⟩;obtain⟨V5,H7⟩:∃V,V4.alloc (.cells #[.func (.func 72) #[] #[.pointer (some ⟨mq,0,none⟩),.pointer (some ⟨pq,0,none⟩),.pointer (some ⟨gq,0,none⟩),.pointer (some ⟨fq,0,none⟩)]] 152)=V:=⟨_,rfl⟩;have HMQ:=A3 Sv;clear hput Sv;go_upto_region 4 with fail;have Sv:=HMQ.out;have s4:V4.heap.size=W3.heap.size+1:=by rw [←Fv];simp
 have keep:∀(q:Nat) (x:Option Obj),q<W3.heap.size→W3.heap[q]?=x→V5.heap[q]?=x:=fun q x hq hx=>by
  rw [←H7,Bv _ _ A0,← Fv,Bv _ _ hq];exact hx
 have hB0:Mc w V5 mq pq gq fq mb (.slice (some ⟨pk,po,none⟩) G.length B7) bv (.slice PA pn MA) (fun x=>x=h):=by
  refine⟨?_,?_,keep _ _ A0 K2.out,keep _ _ A0 K1.out,?_,?_,by omega⟩
  ·rw [←H7,← Fv]
   exact ((B3.out.alloc B3.out.size _).alloc (by have:=B3.out.size;simp;omega) _)
  ·rw [←H7,Bv _ _ A0,← Fv,show mq=W3.heap.size by omega];exact AY _ _
  ·rw [←H7,← VZ];exact AY _ _
  ·exact M3.out.keep (keep _ _ A0 rfl)
 have HB0:=A3 hB0;clear keep s4 H7 VZ Fv hB0 K1 K2 M3 B3 e3 s1 s2 hW1 hW2 ME hpq hmb mk Sv HMQ;go_upto_region 5 with fail;go_loopw [19] (fun a19 wr=>∃(j:Nat) (S:Nat→Prop),j≤m∧a19=.int .i64 (j:Int)∧Mc w wr mq pq gq fq mb (.slice (some ⟨pk,po,none⟩) G.length B7) bv (.slice PA pn MA) S∧PT (Ck P) R (Cj.take j) (fun x=>x=h) S) (fun a19 _=>m - (intOf a19).toNat);case atStart=>exact⟨0,_,Ca _,rfl,HB0.out,.nil⟩
 case round=>
  clear HB0;obtain⟨j,S,hj,rfl,hB,KH⟩:=hrel;obtain⟨t1,t2,t3,t4,t5,t6,t7,t8⟩:=hB.cells;have HVS:=A3 KH;by_cases hlt:j<m
  ·have dl:decide ((j:Int)<(m:Int))=true:=Ac A0
   have Gi:Cj.length=m:=by have:=HM.out;simpa [Bg] using this
   obtain⟨l,hl⟩:∃l,Cj[j]?=some l:=⟨_,Ab A0⟩;obtain⟨pv0,lb,lo,hs,TE,Z8,lc⟩:=(HM.out▸M0.out:Ints w (.slice LA (Bg Cj).length Sc) (Bg Cj)).at_ hB.AA (j:=j) Xk;subst TE;obtain rfl:pv0=(l:Int):=by simp [Bg,hl] at hs;exact hs.symm
   have U0:=A3 (wh OL.out hn5 w mq pq gq fq mb pk po B7 bv (.slice PA pn MA) HPP.out aly.out _ l S wr hB (AH _) (HLT.out l (Bj hl)));have CT:=A3 (show Cj.take (j+1)=Cj.take j++[l] by rw [I6,hl];rfl);clear hB KH hs hl Gi;go_wp2_with (go_at_call 72;refine U0.out.mono ?_;rintro e W7 ⟨rfl,S7,hB7,hV7⟩);go_roundw;case rel=>exact⟨j+1,S7,by omega,by go_num,hB7,by rw [CT.out];exact HVS.out.snoc hV7⟩
   case measure=>exact Ai
  ·obtain rfl:m=j:=by omega
   have dl:decide ((m:Int)<(m:Int))=false:=by simp
   have hall:Cj.take m=Cj:=K8 (by have:=HM.out;simp [Bg] at this;omega);rw [hall] at KH;have Wb:=A3 (KH.body hRh);have G4:=A3 (show ∀x,S x→x<G.length from fun x hx=>by
    rcases KH.Ji x hx with rfl|h1
    ·exact hh
    ·exact hR x h1)
   have ssz:=hB.AA.size;obtain⟨X,hX⟩:=A8 (wr.alloc (.cells #[.map (some mb)] 99));have bX:Below wr.heap.size wr X:=hX▸(AV _ _).alloc (AH _) _;have HK:=A3 (show Calls Tryz.prog 73 #[.map (some mb)] wr fun e w'=>e=.returned (.func (.func 99) #[] #[.pointer (some ⟨wr.heap.size,0,none⟩)])∧X=w' from (atv (some mb) wr).mono fun e w' ⟨h1,h2⟩=>⟨h1,by rw [h2,hX]⟩);have HSO:=A3 (aqn mb wr.heap.size G.length (G8 S) X (hB.im.below bX hB.im.lt) (ar6 G4.out) A0 (by rw [←hX];simp) (by
    have k:X.heap[wr.heap.size]?=some (.cells #[.map (some mb)] 99 (0,0)):=hX▸AY _ _
    simp [World.cell?,k]))
   have Ds:=A3 (hB.AA.trans (bX.mono ssz));have aqv:=A3 (show ∀l,dB (G8 S) l→XL (Ck P) R h Cj l from fun l hl=>⟨hl.Ry,fun x=>by rw [hl.mem,xF,Wb.out]⟩);clear hB KH hall hX bX;go_wp2_with (first|(go_at_call 73;refine HK.out.mono ?_;rintro e w' ⟨rfl,rfl⟩)|(go_at_call 40;refine HSO.out.mono ?_;rintro e W9 ⟨v,l,rfl,hi,hsk,hb9⟩));go_ret;exact⟨v,l,rfl,jv hi (by have:=Ds.out.size;omega),aqv.out l hsk,Ds.out.trans (hb9.mono Ds.out.size)⟩
section
def Dz (ord:List Nat) (pos:Nat→Nat) (es:List (Int×Int)) (h:Nat):List Nat:=(es.filter fun e=>decide (e.1.toNat∈ord∧pos e.2.toNat≤pos e.1.toNat∧e.2.toNat=h)).map fun e=>e.1.toNat
theorem vI {ord:List Nat} {pos:Nat→Nat} {es:List (Int×Int)} {a b:Nat} (h:¬(a∈ord∧pos b≤pos a)):Dz ord pos (es++[((a:Int),(b:Int))])=Dz ord pos es:=by
 funext k;unfold Dz;rw [Zz,Qh];simp only [dF,List.filter_nil,Cu];rw [A6 (by simp only [E4];exact fun hc=>h ⟨hc.1,hc.2.1⟩)];simp
theorem apS {ord:List Nat} {pos:Nat→Nat} {es:List (Int×Int)} {a b:Nat} (h1:a∈ord) (h2:pos b≤pos a):Dz ord pos (es++[((a:Int),(b:Int))])=upd (Dz ord pos es) b (Dz ord pos es b++[a]):=by
 funext k;unfold upd Dz;rw [Zz,Qh];simp only [dF,List.filter_nil,Cu];by_cases hk:k=b
 ·subst hk
  rw [A9 rfl,A9 (by simp [h1,h2])];rfl
 ·rw [A6 hk,A6 (by simp only [E4];exact fun hc=>hk hc.2.2.symm)]
  simp
theorem wV (ord:List Nat) (pos:Nat→Nat):Dz ord pos []=fun _=>[]:=rfl
theorem oy (ord:List Nat) (pos:Nat→Nat) (es:List (Int×Int)) (h:Nat):(Dz ord pos es h).length≤es.length:=by
 unfold Dz;rw [FQ];exact ko _ _
open Classical in
noncomputable def KD (F:Nat→List Nat) (val:Nat→Value):Int→Option Value:=fun k=>if 0≤k∧F k.toNat≠[] then some (val k.toNat) else none
theorem atQ {F:Nat→List Nat} {val:Nat→Value} {h:Nat} (hf:F h≠[]):KD F val (h:Int)=some (val h):=by unfold KD;rw [A9 ⟨by omega,by rw [Cu];exact hf⟩,Cu]
theorem xC {F:Nat→List Nat} {val:Nat→Value} {h:Nat} (hf:F h=[]):KD F val (h:Int)=none:=by unfold KD;rw [A6];rintro⟨_,h2⟩;rw [Cu] at h2;exact h2 hf
theorem arq (F:Nat→List Nat) (val:Nat→Value) (h a:Nat) (v:Value):Ej (KD F val) (h:Int) v=KD (upd F h (F h++[a])) (upd val h v):=by
 funext k;unfold Ej KD upd;by_cases hk:k=(h:Int)
 ·subst hk
  rw [A9 rfl,A9 ⟨by omega,by rw [Cu,A9 rfl];simp⟩,Cu,A9 rfl]
 ·rw [A6 hk]
  by_cases h0:0≤k
  ·have:k.toNat≠h:=by omega
   rw [A6 this,A6 this]
  ·rw [A6 (fun hc=>h0 hc.1),A6 (fun hc=>h0 hc.1)]
theorem aY {F:Nat→List Nat} {val:Nat→Value} {x:Int}:KD F val x≠none↔0≤x∧F x.toNat≠[]:=by
 unfold KD;split
 ·rename_i h;simp [h]
 ·rename_i h;simp only [ne_eq,not_true_eq_false,false_iff];exact h
structure GM (B:Nat) (wr:World) (mb:Nat) (F:Nat→List Nat) (val:Nat→Value):Prop where
 im:Im wr mb (KD F val)
 own:∀k,wr.ownsRow B 3 1 (val k) (F k).length (Aq (Bg (F k)))
 FR:∀i j,i≠j→∀q,(val i).ownBlock=some q→(val j).ownBlock≠some q
 nl:∀k,F k=[]→val k=.slice none 0 0
section
variable {B mb:Nat} {wr w2 W':World} {F:Nat→List Nat} {val:Nat→Value}
theorem GM.ne (h:GM B wr mb F val) (k:Nat):some mb≠(val k).ownBlock:=fun e=>by
 obtain⟨es,cl,h1,_⟩:=h.im;rcases (h.own k).2 with⟨h2,_⟩|⟨g,cap,cur,h2,_,hg,_⟩
 ·rw [h2] at e;cases e
 ·rw [h2] at e
  simp [Value.ownBlock] at e;rw [←e,h1] at hg;cases hg
theorem GM.below (h:GM B wr mb F val) (hb:Below wr.heap.size wr w2):GM B w2 mb F val:=
 ⟨h.im.below hb h.im.lt,fun k=>CS (h.own k) hb,h.FR,h.nl⟩
theorem GM.made (w:World):GM B (w.alloc (.map #[] 0)) w.heap.size (fun _=>[]) (fun _=>.slice none 0 0):=by
 refine⟨?_,fun k=>NK _ _ _ _,fun i j _ q hq=>(by cases hq),fun _ _=>rfl⟩;have:=Im.made w
 rwa [show KD (fun _=>[]) (fun _=>Value.slice none 0 0)=fun _=>none by funext k;unfold KD;rw [A6];simp]
theorem GM.app (h:GM B wr mb F val) {i a:Nat} {v':Value} {W2:World} (hb:Below wr.heap.size wr w2) (hg:w2.grownBy W' (val i).ownBlock)
  (hown:W'.ownsRow B 3 1 v' ((F i).length+1) (Aq (Bg (F i))++[.int .i64 (a:Int)])) (DY:v'.ownBlock=(val i).ownBlock∨v'.ownBlock=some w2.heap.size)
  (hm:Im W2 mb (Ej (KD F val) (i:Int) v')) (hs:W2.heap.size=W'.heap.size) (hk:∀q,q≠mb→W2.heap[q]?=W'.heap[q]?) (ho:W2.os=W'.os) (ht:W2.tape=W'.tape) (hp:W2.output=W'.output) :
  GM B W2 mb (upd F i (F i++[a])) (upd val i v'):=by
 have G:=grown_of hb hg;have S:W'.grownBy W2 (some mb):=⟨ho,ht,hp,by omega,fun k _ hne=>hk k fun e=>hne (by rw [e])⟩;have nem:∀ {v:Value} {n:Nat} {xs:List Value},W'.ownsRow B 3 1 v n xs→v.ownBlock=none∨v.ownBlock≠some mb:=fun {v n xs} hv=>.inr fun e=>by
  rcases hv.2 with⟨h2,_⟩|⟨g,cap,cur,h2,_,hg2,_⟩
  ·rw [h2] at e;cases e
  ·rw [h2] at e
   simp [Value.ownBlock] at e;obtain⟨es,cl,h1,_⟩:=h.im;have hlt:=h.im.lt;have h3:W'.heap[mb]?=some (.map es cl):=(G.block mb hlt (h.ne i)).trans h1;rw [←e,hg2] at h3;cases h3
 have e:Aq (Bg (F i++[a]))=Aq (Bg (F i))++[.int .i64 (a:Int)]:=by simp [Aq,Bg]
 refine⟨by rw [←arq];exact hm,fun k=>?_,fun j c NN q hq=>?_,fun k hk=>?_⟩
 ·unfold upd
  by_cases hki:k=i
  ·subst hki
   rw [A9 rfl,A9 rfl,show (F k++[a]).length=(F k).length+1 by simp,e];exact hown.kept S (nem hown)
  ·rw [A6 hki,A6 hki]
   have h1:W'.ownsRow B 3 1 (val k) (F k).length (Aq (Bg (F k))):=(h.own k).kept G (by
    cases hv:(val k).ownBlock with
    | none=>exact .inl rfl
    | some q=>exact .inr fun e'=>h.FR i k (ED hki) q e'.symm hv)
   exact h1.kept S (nem h1)
 ·have new:∀j,j≠i→∀q,v'.ownBlock=some q→(val j).ownBlock≠some q:=fun j hji q hq hq2=>by
   rcases DY with h1|h1
   ·rw [h1] at hq
    exact h.FR i j (ED hji) q hq hq2
   ·rw [h1] at hq
    cases hq;have:=((h.own j).lt _ hq2).2;have:=hb.size;omega
  unfold upd at hq ⊢;by_cases e1:j=i
  ·rw [A9 e1] at hq
   rw [A6 (fun e=>NN (e1.trans e.symm))];exact new c (fun e=>NN (e1.trans e.symm)) q hq
  ·rw [A6 e1] at hq
   by_cases e2:c=i
   ·rw [A9 e2]
    exact fun hq2=>new j e1 q hq2 hq
   ·rw [A6 e2]
    exact h.FR j c NN q hq
 ·unfold upd at hk ⊢
  by_cases e1:k=i
  ·rw [A9 e1] at hk;simp at hk
  ·rw [A6 e1] at hk;rw [A6 e1];exact h.nl k hk
end
theorem aa1 (w:World):(zeroValue 38).run Tryz.prog w=.ok (.slice none 0 0) w:=by kernel_rfl
theorem GM.look {B mb:Nat} {wr:World} {F:Nat→List Nat} {val:Nat→Value} (h:GM B wr mb F val) {i:Nat} (hi:i≤1000000):(Instr.lookup 107 (.map (some mb)) (.int .i64 (i:Int)) false).run Tryz.prog wr=.ok (val i) wr:=by
 by_cases hf:F i=[]
 ·have h1:=h.im.WH (P:=Tryz.prog) (kt:=3) (t:=107) (e:=38) Db jZ (aa1 wr) (JA (k:=(i:Int)) A0 A0) (xC hf) false
  have h3:=h.nl i hf;rw [h3];simpa using h1
 ·have h1:=h.im.Tc (P:=Tryz.prog) (kt:=3) (t:=107) (e:=38) Db jZ (atQ hf) false
  simpa using h1
section
variable {V wr w2:World} {mb:Nat} {r:Option Nat}
theorem Pv (h:V.grownBy wr r) (hb:Below wr.heap.size wr w2):V.grownBy w2 r:=
 ⟨hb.os.trans h.os,hb.tape.trans h.tape,hb.output.trans h.output,FK h.size hb.size,fun k hk hne=>(hb.block k (by have:=h.size;omega)).trans (h.block k hk hne)⟩
theorem gD {row:Option Nat} (h:V.grownBy wr r) (hg:wr.grownBy w2 row) (hr:∀k,row=some k→V.heap.size≤k):V.grownBy w2 r:=
 ⟨hg.os.trans h.os,hg.tape.trans h.tape,hg.output.trans h.output,FK h.size hg.size,fun k hk hne=>(hg.block k (by have:=h.size;omega) (fun e=>by have:=hr k e.symm;omega)).trans (h.block k hk hne)⟩
theorem arW (h:V.grownBy wr (some mb)) (ho:w2.os=wr.os) (ht:w2.tape=wr.tape) (hp:w2.output=wr.output) (hs:w2.heap.size=wr.heap.size) (hk:∀i,i≠mb→w2.heap[i]?=wr.heap[i]?):V.grownBy w2 (some mb):=
 ⟨ho.trans h.os,ht.trans h.tape,hp.trans h.output,by rw [hs];exact h.size,fun k hk' hne=>(hk k (fun e=>hne (by rw [e]))).trans (h.block k hk' hne)⟩
def Ou (w:World) (mb:Nat):Prop:=∃es cl,w.heap[mb]?=some (.map es cl)
theorem Im.ali {f:Int→Option Value} (h:Im V mb f):Ou V mb:=by obtain⟨es,cl,h1,_⟩:=h;exact⟨es,cl,h1⟩
theorem Ou.cell (h:Ou V mb) (hg:V.grownBy wr (some mb)) {b o:Nat} {v:Value} (hc:V.cell? ⟨b,o,none⟩=some v):wr.cell? ⟨b,o,none⟩=some v:=hg.cell hc fun e=>by
 obtain⟨es,cl,h1⟩:=h;simp only [MG] at e;subst e;simp [World.cell?,h1] at hc
theorem Ou.box (h:Ou V mb) (hg:V.grownBy wr (some mb)) {q:Nat} {cs:Array Value} {t:TypeId} {fr:Nat×Nat} (hc:V.heap[q]?=some (.cells cs t fr)):wr.heap[q]?=some (.cells cs t fr):=(hg.block q (Bl.1 hc).1 fun e=>by
 obtain⟨es,cl,h1⟩:=h;simp only [MG] at e;subst e
 rw [hc] at h1;cases h1).trans hc
theorem Ou.ints (h:Ou V mb) (hg:V.grownBy wr (some mb)) {v:Value} {l:List Int} (hi:Ints V v l):Ints wr v l:=by
 obtain⟨A,cap,h1,h2,h3,h4⟩:=hi;refine⟨A,cap,h1,h2,h3,fun h0=>?_⟩;obtain⟨b,off,e,hl,hc⟩:=h4 h0;exact⟨b,off,e,by have:=hg.size;omega,fun k hk=>h.cell hg (hc k hk)⟩
theorem Ou.lls (h:Ou V mb) (hg:V.grownBy wr (some mb)) {v:Value} {P:List (List Int)} (hi:Dk V v P):Dk wr v P:=by
 obtain⟨A,cap,h1,h2,h3,h4⟩:=hi;refine⟨A,cap,h1,h2,h3,fun h0=>?_⟩;obtain⟨b,off,e,hl,hc⟩:=h4 h0;exact⟨b,off,e,by have:=hg.size;omega,fun k x hx=>by
  obtain⟨u,h5,h6⟩:=hc k x hx
  exact⟨u,h.cell hg h5,h.ints hg h6⟩⟩
end
structure Qp where
 h:Int
 bv:Value
 lv:Value
 p:Int
def JM (q:Qp):List Value:=[.int .i64 q.h,q.bv,q.lv,.int .i64 q.p]
def Gt (Q:List Qp):List Value:=Q.flatMap JM
theorem lF:∀(Q:List Qp) (k j:Nat) (q:Qp),Q[k]?=some q→j<4→(Gt Q)[k*4+j]?=(JM q)[j]?
 | y :: Q,0,j,q,h,hj=>by
  simp at h;subst h;have e:Gt (y :: Q)=JM y++Gt Q:=by simp [Gt]
  rw [e,Tl,Er,Kr (by simpa [JM] using hj)]
 | y :: Q,k+1,j,q,h,hj=>by
  have h':Q[k]?=some q:=by simpa using h
  have e:Gt (y :: Q)=JM y++Gt Q:=by simp [Gt]
  rw [e,Jg (by simp [JM];omega),show (k+1)*4+j - (JM y).length=k*4+j by simp [JM];omega];exact lF Q k j q h' hj
theorem rI:∀(Q:List Qp) (k:Nat) (q:Qp) (x:Int),Q[k]?=some q→(Gt Q).set (k*4+3) (.int .i64 x)=Gt (Q.set k { q with p:=x })
 | y :: Q,0,q,x,h=>by simp at h;subst h;simp [Gt,JM]
 | y :: Q,k+1,q,x,h=>by
  have h':Q[k]?=some q:=by simpa using h
  have e:Gt (y :: Q)=JM y++Gt Q:=by simp [Gt]
  have e2:Gt ((y :: Q).set (k+1) { q with p:=x })=JM y++Gt (Q.set k { q with p:=x }):=by simp [Gt]
  rw [e,e2,nE _ _ (by simp [JM];omega),show (k+1)*4+3 - (JM y).length=k*4+3 by simp [JM];omega,rI Q k q x h']
structure LL (B:Nat) (wr:World) (v:Value) (Q:List Qp) (L:List Lp):Prop where
 row:wr.ownsRow B 46 4 v Q.length (Gt Q)
 len:Q.length=L.length
 each:∀(k:Nat) (q:Qp) (x:Lp),Q[k]?=some q→L[k]?=some x→q.h=x.h∧wr.ownsRow B 3 1 q.bv x.bl.length (Aq x.bl)∧wr.ownsRow B 3 1 q.lv x.la.length (Aq x.la)
theorem LL.below {B:Nat} {wr w2:World} {v:Value} {Q:List Qp} {L:List Lp} (h:LL B wr v Q L) (hb:Below wr.heap.size wr w2):LL B w2 v Q L:=
 ⟨CS h.row hb,h.len,fun k q x hq hx=>by
  obtain⟨h1,h2,h3⟩:=h.each k q x hq hx
  exact⟨h1,CS h2 hb,CS h3 hb⟩⟩
theorem LL.nil (B:Nat) (wr:World):LL B wr (.slice none 0 0) [] []:=⟨NK _ _ _ _,rfl,fun k q x hq=>by simp at hq⟩
theorem LL.Ox {B:Nat} {wr:World} {v:Value} {Q:List Qp} {L:List Lp} (h:LL B wr v Q L):IW wr v L:=by
 rcases h.row.2 with⟨rfl,h0⟩|⟨g,cap,cur,rfl,h1,h2,h3,h4,_,_⟩
 ·exact⟨none,0,by rw [←h.len,h0],by have:=h.len;omega,by unfold maxLen;omega,fun h9=>by have:=h.len;omega⟩
 ·refine⟨_,cap,by rw [←h.len],by have:=h.len;omega,h4,fun _=>⟨g,0,rfl,(Bl.1 h2).1,fun k x hx=>?_⟩⟩
  have hk:k<Q.length:=by rw [h.len];exact (Bc.1 hx).1
  have hq:Q[k]?=some Q[k]:=Ab hk;obtain⟨e1,e2,e3⟩:=h.each k _ x hq hx;have c:∀j,j<4→wr.cell? ⟨g,0+k*4+j,none⟩=(JM Q[k])[j]?:=fun j hj=>by
   rw [Er,h.row.cellAt _ A0,lF Q k j _ hq hj]
  have c0:=c 0 A0;rw [Zg] at c0;exact⟨by rw [c0,← e1];rfl,⟨_,c 1 A0,NT e2⟩,⟨_,c 2 A0,NT e3⟩,_,c 3 A0⟩
end
section
section
variable {B B' m n:Nat} {wr w2 W':World} {mb:Nat} {F:Nat→List Nat} {val:Nat→Value} {v v' u:Value} {xs ys:List Value} {Q:List Qp} {L:List Lp}
theorem Py (hi:wr.ownsRow B 3 1 u m ys) (hr:wr.ownsRow B' 46 4 v n xs) (hg:wr.grownBy W' v.ownBlock):W'.ownsRow B 3 1 u m ys:=hi.kept hg (by
 cases hu:u.ownBlock with
 | none=>exact .inl rfl
 | some q=>exact .inr fun e=>Fs hi hr AP q hu e.symm)
theorem GM.apK (h:GM B wr mb F val) (hr:wr.ownsRow B' 46 4 v n xs) (hg:wr.grownBy W' v.ownBlock):GM B W' mb F val:=
 ⟨h.im.keep (hg.block mb h.im.lt fun e=>by
  obtain⟨es,cl,h1,_⟩:=h.im;rcases hr.2 with⟨h2,_⟩|⟨g,cap,cur,h2,_,h3,_⟩
  ·rw [h2] at e;cases e
  ·rw [h2] at e
   simp [Value.ownBlock] at e;rw [←e,h1] at h3
   cases h3),fun k=>Py (h.own k) hr hg,h.FR,h.nl⟩
theorem LL.app {q:Qp} {x:Lp} (h:LL B wr v Q L) (hb:Below wr.heap.size wr w2) (hg:w2.grownBy W' v.ownBlock) (hown:W'.ownsRow B 46 4 v' (Q.length+1) (Gt Q++JM q)) (hq:q.h=x.h∧wr.ownsRow B 3 1 q.bv x.bl.length (Aq x.bl)∧wr.ownsRow B 3 1 q.lv x.la.length (Aq x.la)):LL B W' v' (Q++[q]) (L++[x]):=by
 have h2:=h.below hb;refine⟨?_,by simp [h.len],fun k q' x' hk hx=>?_⟩
 ·rw [show (Q++[q]).length=Q.length+1 by simp,show Gt (Q++[q])=Gt Q++JM q by simp [Gt]]
  exact hown
 ·by_cases hlt:k<Q.length
  ·rw [Kr hlt] at hk
   rw [Kr (by rw [←h.len];exact hlt)] at hx;obtain⟨e1,e2,e3⟩:=h2.each k q' x' hk hx;exact⟨e1,Py e2 h2.row hg,Py e3 h2.row hg⟩
  ·have DK:=(Bc.1 hk).1
   obtain rfl:k=Q.length:=by simp at DK;omega
   rw [Jg (AH _)] at hk;rw [Jg (by rw [h.len];exact AH _)] at hx;simp [h.len] at hk hx;subst hk hx;exact⟨hq.1,Py (CS hq.2.1 hb) h2.row hg,Py (CS hq.2.2 hb) h2.row hg⟩
theorem LL.apQ {g cap k:Nat} {q:Qp} (h:LL B wr (.slice (some ⟨g,0,none⟩) m cap) Q L) (hk:Q[k]?=some q) (x:Int):LL B (wr.setCell ⟨g,k*4+3,none⟩ (.int .i64 x)) (.slice (some ⟨g,0,none⟩) m cap) (Q.set k { q with p:=x }) L:=by
 have hm:m=Q.length:=by
  rcases h.row.2 with⟨e,_⟩|⟨_,_,_,e,_⟩
  ·cases e
  ·cases e;rfl
 subst hm;have r:=(h.row.stored (k*4+3) (.int .i64 x)).1;rw [rI Q k q x hk] at r;have hg:wr.grownBy (wr.setCell ⟨g,k*4+3,none⟩ (.int .i64 x)) (Value.slice (some ⟨g,0,none⟩) Q.length cap).ownBlock:=Hz wr g _ _;refine⟨by rw [LB];exact r,by rw [LB];exact h.len,fun j q' x' hj hx=>?_⟩;by_cases e:k=j
 ·subst e
  have DK:=(Bc.1 hk).1;rw [Gv,A9 rfl,A9 DK] at hj;cases hj;obtain⟨e1,e2,e3⟩:=h.each k q x' hk hx;exact⟨e1,Py e2 h.row hg,Py e3 h.row hg⟩
 ·rw [Gv,A6 e] at hj
  obtain⟨e1,e2,e3⟩:=h.each j q' x' hj hx;exact⟨e1,Py e2 h.row hg,Py e3 h.row hg⟩
end
theorem jc {w:World} {B:Nat} {e:TypeId} {size n:Nat} {v:Value} {xs:List Value} (h:w.ownsRow B e size v n xs):∃A cap,v=.slice A n cap:=by
 rcases h.2 with⟨h1,h2⟩|⟨g,cap,cur,h1,_⟩
 ·exact⟨_,_,by rw [h1,h2]⟩
 ·exact⟨_,_,h1⟩
theorem atI {w:World} {b:Nat} {cs:Array Value} {t:TypeId} (h:w.heap[b]?=some (.cells cs t (0,0))) (o:Nat):w.frozen? ⟨b,o,none⟩=false:=by simp [World.frozen?,h]
theorem arc (w:World) (a b c d:Value) (t:TypeId):∀j u,[a,b,c,d][j]?=some u→(w.alloc (.cells #[a,b,c,d] t)).cell? ((⟨w.heap.size,0,none⟩:Addr).add j)=some u:=by
 intro j u h;have e:(⟨w.heap.size,0,none⟩:Addr).add j=⟨w.heap.size,j,none⟩:=by cases j<;>simp [Addr.add]
 rw [e];unfold World.cell?;rw [AY];simpa using h
theorem atE {ord:List Nat} {pos:Nat→Nat} {es:List (Int×Int)} {h:Nat}:∀l∈Dz ord pos es h,∃e∈es,e.1.toNat=l∧e.2.toNat=h∧l∈ord:=fun l hl=>by
 unfold Dz at hl;obtain⟨e,he,rfl⟩:=C5.1 hl;obtain⟨h1,h2⟩:=Mj.1 he;have h3:=JB h2;exact⟨e,h1,rfl,h3.2.2,h3.1⟩
end
def LY (ord:List Nat) (pos:Nat→Nat) (D:List Int) (es:List (Int×Int)):Prop:=∀e∈es,e.1.toNat∈ord→pos e.2.toNat≤pos e.1.toNat→Ae D e.1.toNat e.2.toNat
theorem LY.snoc {ord:List Nat} {pos:Nat→Nat} {D:List Int} {es:List (Int×Int)} (h:LY ord pos D es) {a b:Nat} (k:a∈ord→pos b≤pos a→Ae D a b):LY ord pos D (es++[((a:Int),(b:Int))]):=fun e he=>by
 rcases Ch.1 he with he|he
 ·exact h e he
 ·obtain rfl:e=((a:Int),(b:Int)):=by simpa using he
  simpa using k
structure Hy (P:List (List Int)) (ord:List Nat) (pos:Nat→Nat) (es:List (Int×Int)) (D:List Int) (L:List Lp):Prop where
 ok:LY ord pos D es
 Ry:(L.map (·.h)).Pairwise (· < ·)
 mem:∀x,x∈L.map (·.h)↔0≤x∧Dz ord pos es x.toNat≠[]
 each:∀x∈L,x.la=Bg (Dz ord pos es x.h.toNat)∧XL (Ck P) (·∈ord) x.h.toNat (Dz ord pos es x.h.toNat) x.bl
theorem Vn {G:List AU} {P:List (List Int)} (HV:Dm G P) {e:Int×Int} (h:e∈CP G G.length []):∃a b:Nat,e=((a:Int),(b:Int))∧a<G.length∧b<G.length∧b∈Aa G a:=by
 unfold CP at h;simp only [Xx,Jz,TB,Gp,C5] at h;obtain⟨a,ha,t,ht,rfl⟩:=h;obtain⟨z,hz⟩:=HV.ok;have hx:G[a]?=some G[a]:=Ab ha;obtain⟨e,he⟩:=hz.each _ (Bj hx);rw [List.getD,hx] at ht;have:=he.nx t ht;refine⟨a,t.toNat,by rw [PN this.1],ha,by omega,?_⟩;rw [V8 hx];exact C5.2 ⟨t,ht,rfl⟩
theorem aee:(Tryz.prog.info? 46).map (fun i=>(i.zero,i.size,i.bytes))=some (some (.agg #[.int .i64 0,.slice none 0 0,.slice none 0 0,.int .i64 0]),4,64):=by kernel_rfl
theorem ady (bv pv:Value) (G:List AU) (P:List (List Int)) (w:World) (HG:E7 w bv G) (HP:Dk w pv P) (HV:Dm G P) (hn:G.length≤5000) :
  Calls Tryz.prog 13 #[.agg #[bv,pv]] w fun e w'=>(∃D,Ec G D∧((∃v L,e=.returned (.tuple #[v,.int .i64 (-1),.int .i64 0])∧IW w' v L∧Hy P (C6 G.length (Aa G)) (Cw G.length (Aa G)) (CP G G.length []) D L)∨(∃tg:Int,e=.returned (.tuple #[.slice none 0 0,.int .i64 tg,.int .i64 16])∧¬LY (C6 G.length (Aa G)) (Cw G.length (Aa G)) D (CP G G.length []))))∧Below w.heap.size w w':=by
 have HB:=A3 (GB.of HV hn);have hne:0<G.length:=Gk.2 HV.ne;obtain⟨gr,MX⟩:=Nb hne HB.out.lt;have OL:=A3 HV;obtain⟨A,cap,rfl,hc1,hc2⟩:=HG.slice;obtain⟨PA,B7,rfl,hp1,hp2⟩:=HP.slice;obtain⟨V0,Bq⟩:=A8 (w.alloc (.cells #[.slice A G.length cap,.slice PA P.length B7] 31));obtain⟨gq,ME⟩:∃q,w.heap.size=q:=⟨_,rfl⟩;have b0:Below w.heap.size w V0:=Bq▸(AV _ _).alloc (AH _) _;have k0:V0.heap[gq]?=some (.cells #[.slice A G.length cap,.slice PA P.length B7] 31 (0,0)):=by rw [←Bq,← ME];exact AY _ _
 have y0:V0.cell? ⟨gq,0,none⟩=some (.slice A G.length cap):=by simp [World.cell?,k0]
 have y1:V0.cell? ⟨gq,1,none⟩=some (.slice PA P.length B7):=by simp [World.cell?,k0]
 have s0:gq<V0.heap.size:=(Bl.1 k0).1;have GQ:=A3 (show Calls Tryz.prog 35 #[.agg #[.slice A G.length cap,.slice PA P.length B7]] V0 fun e w'=>e=.returned (.bool true)∧Below V0.heap.size V0 w' from
  (bC _ _ G P V0 (HG.below b0) (HP.below b0) hn (fun x hx=>by obtain⟨i,hi⟩:=LH.1 hx;exact HB.out.two i x hi)).mono fun e w' h=>by
   obtain⟨⟨r,rfl,hr⟩,hb⟩:=h;rw [hr.2 HV]
   exact⟨rfl,hb⟩)
 have⟨HGV,HPV⟩:=AQ (HG.below b0) (HP.below b0);obtain⟨ord,ho⟩:∃o,C6 G.length (Aa G)=o:=⟨_,rfl⟩;obtain⟨pos,Km⟩:∃o,Cw G.length (Aa G)=o:=⟨_,rfl⟩;obtain⟨EL,hel⟩:∃l,CP G G.length []=l:=⟨_,rfl⟩;rw [ho,Km,hel];have⟨HO,Iu,HEL⟩:=Bh ho Km hel;rw [ho,Km] at gr;rw [ho] at MX;have⟨EG,B0⟩:=AQ gr b0;have Ot:ord.length≤G.length:=Pz MX gr.lt;clear HG HP HV b0 k0 hc1 hc2 hp1 gr ho Km MX hel;obtain⟨m,hm⟩:=A8 ord.length;rw [hm] at Ot;have HM:=A3 hm;obtain⟨iI,Ef,Es,EN,FN⟩:=Dp Oy;clear hm;go_enter Tryz.func13,Tryz.ntmps13;go_upto_region 3 with (go_at_call 35;refine GQ.out.mono ?_;rintro e W1 ⟨rfl,hb1⟩);have BV1:=A3 hb1;have u0:W1.cell? ⟨gq,0,none⟩=some (.slice A G.length cap):=(hb1.cell (p:=⟨gq,0,none⟩) s0).trans y0;obtain⟨U1,lm,D7,gr1⟩:=Qb (P:=Tryz.prog) W1 V0.heap.size 38 3 iI (.int .i64 0) 1 JJ Ef Es EN .i64 .i64 G.length Xa CJ BV1.out.size;rw [N6,show (Value.int .i64 0).cells=#[Value.int .i64 0] from rfl,Qs] at D7;obtain⟨pb,hpb⟩:∃q,W1.heap.size=q:=⟨_,rfl⟩;rw [hpb] at lm;have r0:Aq (List.replicate G.length 0)=List.replicate G.length (Value.int .i64 0):=by simp [Aq]
 have IV:=A3 (show U1.ownsRow V0.heap.size 3 1 (.slice (some ⟨pb,0,none⟩) G.length G.length) G.length (Aq (Hs G.length 0)) by rw [gi,r0,← hpb];exact D7);have JF:=A3 gr1;have hBU:Below V0.heap.size V0 U1:=BV1.out.grown gr1 BV1.out.size (fun k hk=>by cases hk);have Ow:=A3 hBU;clear D7 gr1 hpb hb1 r0 Ef Es EN FN iI hBU GQ Bq;go_upto_region 5 with fail;clear lm u0;go_loopw [29] (fun a29 wr=>∃k:Nat,k≤G.length∧a29=.int .i64 (k:Int)∧wr.ownsRow V0.heap.size 3 1 (.slice (some ⟨pb,0,none⟩) G.length G.length) G.length (Aq (Hs G.length k))∧Below V0.heap.size V0 wr) (fun a29 _=>G.length - (intOf a29).toNat);case atStart=>exact⟨0,Ca _,rfl,IV.out,Ow.out⟩
 case round=>
  obtain⟨k,hk,rfl,hr,hg⟩:=hrel;have⟨Vl,HR⟩:=AQ hg hr;by_cases hlt:k<G.length
  ·have dl:decide ((k:Int)<(G.length:Int))=true:=Ac A0
   have i1:(k:Int)<(G.length:Int):=by omega
   have x1:=Mq hr (by simp [Hs]) hlt;have x2:=hr.frozenAt k;have r1:=(hr.stored k (.int .i64 (-1))).1;rw [TN,vJ] at r1;have⟨R1,G1⟩:=AQ r1 (hg.setCell (p:=⟨pb,k,none⟩) (hr.lt pb rfl).1 (.int .i64 (-1)));have Yf:=(hr.lt pb rfl).2;clear hr hg r1 IV Ow JF;go_wp2_with fail;go_roundw;case rel=>exact⟨k+1,by omega,by go_num,R1.out,G1.out⟩
   case measure=>exact Ai
  ·obtain rfl:k=G.length:=by omega
   have dl:decide ((G.length:Int)<(G.length:Int))=false:=by simp
   obtain⟨w2,hw2⟩:∃w2:World,w2=wr:=⟨_,rfl⟩;subst hw2;have Vq:=A3 (pY _ _ G P w2 (HGV.out.below hg) (HPV.out.below hg) OL.out hn);have g0:w2.cell? ⟨gq,0,none⟩=some (.slice A G.length cap):=(hg.cell (p:=⟨gq,0,none⟩) s0).trans y0;have g1:w2.cell? ⟨gq,1,none⟩=some (.slice PA P.length B7):=(hg.cell (p:=⟨gq,1,none⟩) s0).trans y1;have sg2:gq<w2.heap.size:=by have:=hg.size;omega
   rw [vP,← wN G.length ord pos] at hr;have EW:=A3 hr;rw [HO.out,HM.out] at Vq;clear hr hg IV Ow JF HR dl;go_upto_region 10 with (go_at_call 36;refine Vq.out.mono ?_;rintro e W3 ⟨⟨og,Pu,rfl,Ih,hog⟩,hb3⟩);have⟨Sl,T6,Ey,TU⟩:=CU Ih (Vl.out.trans (hb3.mono Vl.out.size)) (CS EW.out hb3) hb3;have od:og≠pb:=by have:=(EW.out.lt pb rfl).2;omega
   clear Ih hb3 g0 g1 sg2 hog;go_loopw [39] (fun a39 wr=>∃i:Nat,i≤m∧a39=.int .i64 (i:Int)∧wr.ownsRow V0.heap.size 3 1 (.slice (some ⟨pb,0,none⟩) G.length G.length) G.length (Aq (Hr G.length ord pos i))∧Below V0.heap.size V0 wr∧W3.grownBy wr (some pb)) (fun a39 _=>m - (intOf a39).toNat);case atStart=>exact⟨0,Ca _,rfl,Ey.out,T6.out,⟨rfl,rfl,rfl,AH _,fun _ _ _=>rfl⟩⟩
   case round=>
    obtain⟨i,hi,rfl,hr,hg,hg3⟩:=hrel;have⟨gy,zK⟩:=AQ hg hg3;by_cases hlt:i<m
    ·have dl:decide ((i:Int)<(m:Int))=true:=Ac A0
     obtain⟨b,hb⟩:∃b,ord[i]?=some b:=⟨_,Ab Xk⟩;have DC:=EG.out.lt b (Bj hb);obtain⟨-,sog,h2⟩:=cN Sl.out (k:=i) (by rw [Bg,FQ,HM.out];exact hlt);rw [iR hb] at h2;have oc:wr.cell? ⟨og,i,none⟩=some (.int .i64 (b:Int)):=hg3.cell h2 (fun e=>od (by injection e));have i1:(b:Int)<(G.length:Int):=by omega
     have x1:=Mq hr (oI _ _ _ _) DC;have x2:=hr.frozenAt b;have r1:=(hr.stored b (.int .i64 (i:Int))).1;rw [TN,qV EG.out hb] at r1;have⟨R1,G1⟩:=AQ r1 (hg.setCell (p:=⟨pb,b,none⟩) (hr.lt pb rfl).1 (.int .i64 (i:Int)));have G3:=A3 (show W3.grownBy (wr.setCell ⟨pb,b,none⟩ (.int .i64 (i:Int))) (some pb) from⟨hg3.os,hg3.tape,hg3.output,by have:=hg3.size;simpa using this,fun k hk uR=>by
      have hkp:k≠pb:=fun e=>uR (by rw [e])
      rw [Bb _ _ _ _ hkp];exact hg3.block k hk uR⟩)
     have Yf:=(hr.lt pb rfl).2;clear hr hg hg3 r1 h2 Ey T6 hb;go_wp2_with fail;go_roundw;case rel=>exact⟨i+1,by omega,by go_num,R1.out,G1.out,G3.out⟩
     case measure=>exact Ai
    ·obtain rfl:m=i:=by omega
     have dl:decide ((m:Int)<(m:Int))=false:=by simp
     obtain⟨w4,hw4⟩:∃w4:World,w4=wr:=⟨_,rfl⟩;subst hw4;have qc:=A3 (oJ _ _ G P w4 (HGV.out.below hg) (HPV.out.below hg) OL.out hn);have g0:w4.cell? ⟨gq,0,none⟩=some (.slice A G.length cap):=(hg.cell (p:=⟨gq,0,none⟩) s0).trans y0;have g1:w4.cell? ⟨gq,1,none⟩=some (.slice PA P.length B7):=(hg.cell (p:=⟨gq,1,none⟩) s0).trans y1;have sg2:gq<w4.heap.size:=by have:=hg.size;omega
     have J1:=A3 hr;clear hr hg hg3 Ey T6 TU dl Sl od;go_upto_region 15 with (go_at_call 37;refine qc.out.mono ?_;rintro e W5 ⟨⟨dv,D,rfl,Nq,Nx⟩,hb5⟩);have⟨HDI,LN⟩:=AQ Nq Nx;have HIT:=A3 (show JL G.length (Aa G) ord pos D by have:=Nx;unfold Ec at this;rwa [HO.out,Iu.out] at this);have⟨N7,HR5⟩:=AQ (gy.out.trans (hb5.mono gy.out.size)) (CS J1.out hb5);have hs5:=N7.out.size;have hmm:=@run_makeMap Tryz.prog;obtain⟨mb,hmb⟩:∃q,W5.heap.size=q:=⟨_,rfl⟩;obtain⟨W6,P6⟩:∃V,W5.alloc (.map #[] 0)=V:=⟨_,rfl⟩;have b6:Below W5.heap.size W5 W6:=P6▸(AV _ _).alloc (AH _) _;have GM6:=A3 (show GM W6.heap.size W6 mb (fun _=>[]) (fun _=>.slice none 0 0) by rw [←hmb];have:=GM.made (B:=W6.heap.size) W5;rw [P6] at this;exact this);have B6:=A3 (N7.out.trans (b6.mono N7.out.size));have QV:=A3 (show w.heap.size≤mb by have:=B0.out.size;omega);have⟨DI6,R6⟩:=AQ (HDI.out.below b6) (CS HR5.out b6);have g2:W6.cell? ⟨gq,0,none⟩=some (.slice A G.length cap):=(B6.out.cell (p:=⟨gq,0,none⟩) s0).trans y0;have g3:W6.cell? ⟨gq,1,none⟩=some (.slice PA P.length B7):=(B6.out.cell (p:=⟨gq,1,none⟩) s0).trans y1;have sg6:gq<W6.heap.size:=by have:=B6.out.size;omega
     clear Nq Nx hb5 g0 g1 sg2 b6 J1 qc gy zK HDI HR5;go_upto_region 16 with fail;have Gd:=A3 (apC _ (.slice PA P.length B7) G W6 (HGV.out.below B6.out) hn (fun x hx=>by obtain⟨i,hi⟩:=LH.1 hx;exact HB.out.two i x hi));rw [HEL.out] at Gd;clear hmm P6 hmb;go_upto_region 17 with (go_at_call 38;refine Gd.out.mono ?_;rintro e V ⟨⟨ev,rfl,hev⟩,LZ⟩;obtain⟨EA,CV,rfl,he1,he2,-⟩:=id hev);obtain⟨ne,aQ⟩:∃n,EL.length=n:=⟨_,rfl⟩;rw [aQ] at he1 ⊢;have⟨KL,Tx,Hl⟩:=Bh aQ hev (B6.out.trans (LZ.mono B6.out.size));have WQ:=A3 (show ∀k,k<G.length→V.cell? ⟨pb,k,none⟩=some (.int .i64 ((Hr G.length ord pos ord.length).getD k (-1))) from fun k hk=>by
      have:=Mq (CS R6.out LZ) (oI _ _ _ _) hk
      rwa [←HM.out] at this)
     have spV:pb<V.heap.size:=((CS R6.out LZ).lt pb rfl).2;have⟨HDV,Ny⟩:=AQ (DI6.out.below LZ) (show Ou V mb from (GM6.out.im.below LZ GM6.out.im.lt).ali);have O3:=A3 (show GM V.heap.size V mb (Dz ord pos (EL.take 0)) (fun _=>.slice none 0 0) from⟨by rw [List.take_zero,wV];exact GM6.out.im.below LZ GM6.out.im.lt,fun k=>NK _ _ _ _,fun i j _ q hq=>(by cases hq),fun _ _=>rfl⟩);have sgV:gq<V.heap.size:=by have:=Hl.out.size;omega
     have kgV:=Hl.out.cell (p:=⟨gq,0,none⟩) s0;have tP:=Hl.out.cell (p:=⟨gq,1,none⟩) s0;rw [y0] at kgV;rw [y1] at tP;have auQ:ne≤30000000:=by
      have:=mo G (fun x hx=>by obtain⟨i,hi⟩:=LH.1 hx;exact HB.out.two i x hi) G.length (AH _) [];rw [HEL.out,aQ] at this;simp at this;omega
     clear aQ hev LZ g2 g3 sg6 hs5;go_loopw [55] (fun a55 wr=>∃(k:Nat) (val:Nat→Value),k≤ne∧a55=.int .i64 (k:Int)∧V.grownBy wr (some mb)∧GM V.heap.size wr mb (Dz ord pos (EL.take k)) val∧LY ord pos D (EL.take k)) (fun a55 _=>ne - (intOf a55).toNat);case atStart=>exact⟨0,_,Ca _,rfl,⟨rfl,rfl,rfl,AH _,fun _ _ _=>rfl⟩,O3.out,fun e he=>by simp at he⟩
     case round=>
      clear O3;obtain⟨k,val,hk,rfl,hg,J2,hok⟩:=hrel;have⟨HG,O3,Ea⟩:=Bh hg J2 hok;have Iz:=hg.size;clear hok;by_cases hlt:k<ne
      ·have dl:decide ((k:Int)<(ne:Int))=true:=Ac A0
       have i1:(k:Int)<(ne:Int):=by omega
       obtain⟨e,he⟩:∃e,EL[k]?=some e:=⟨_,Ab (by rw [KL.out];exact hlt)⟩;obtain⟨a,b,rfl,han,DC,BK⟩:=Vn OL.out (e:=e) (by rw [HEL.out];exact Bj he);have CT:=A3 (show EL.take (k+1)=EL.take k++[((a:Int),(b:Int))] by rw [I6,he];rfl);obtain⟨eb,eo,hEA,seb,ec0,ec1⟩:∃eb eo,EA=some ⟨eb,eo,none⟩∧eb<V.heap.size∧V.cell? ⟨eb,eo+k*2,none⟩=some (.int .i64 (a:Int))∧V.cell? ⟨eb,eo+k*2+1,none⟩=some (.int .i64 (b:Int)):=by
        obtain⟨_,_,e1,_,_,e4⟩:=Tx.out;cases e1;obtain⟨eb,eo,e5,e6,e7⟩:=e4 (by rw [KL.out];omega);exact⟨eb,eo,e5,e6,(e7 k _ he).1,(e7 k _ he).2⟩
       subst hEA;have ec2:=Ny.out.cell hg ec0;have ec3:=Ny.out.cell hg ec1;have sew:eb<wr.heap.size:=by omega
       have pa:=Ny.out.cell hg (WQ.out a han);have pbb:=Ny.out.cell hg (WQ.out b DC);rw [aH EG.out han] at pa;rw [aH EG.out DC] at pbb;have spw:pb<wr.heap.size:=by omega
       have ian:(a:Int)<(G.length:Int):=by omega
       have ibn:(b:Int)<(G.length:Int):=by omega
       have ER:=A3 BK;clear ec0 ec1 he BK J2 hg;go_upto_region 19 with fail;obtain⟨q12,gO⟩:∃q,wr.heap.size=q:=⟨_,rfl⟩;obtain⟨X,hX⟩:=A8 (wr.alloc (.cells #[.int .i64 (a:Int),.int .i64 (b:Int)] 109));rw [hX,gO];have bX:Below wr.heap.size wr X:=hX▸(AV _ _).alloc (AH _) _;have kX:X.heap[q12]?=some (.cells #[.int .i64 (a:Int),.int .i64 (b:Int)] 109 (0,0)):=by rw [←gO,← hX];exact AY _ _
       have z0:X.cell? ⟨q12,0,none⟩=some (.int .i64 (a:Int)):=by simp [World.cell?,kX]
       have z1:X.cell? ⟨q12,1,none⟩=some (.int .i64 (b:Int)):=by simp [World.cell?,kX]
       have szq:q12<X.heap.size:=(Bl.1 kX).1;have xa:=(bX.cell (p:=⟨pb,a,none⟩) spw).trans pa;have xb:=(bX.cell (p:=⟨pb,b,none⟩) spw).trans pbb;have spX:pb<X.heap.size:=by have:=bX.size;omega
       have BX:=A3 bX;clear hX gO bX kX ec2 ec3 pa pbb sew;refine C7 A4 A4 ?_;repeat (go_big_quiet_step (fail))
       refine BD ?_;rintro _ ⟨y,rfl⟩;by_cases hao:a∈ord
       ·have Rt:b∈ord:=EG.out.closed a hao b ER.out
        rw [A9 hao] at xa;rw [A9 Rt] at xb;obtain⟨qa,MF⟩:∃q,pos a=q:=⟨_,rfl⟩;obtain⟨qb,IJ⟩:∃q,pos b=q:=⟨_,rfl⟩;rw [MF] at xa;rw [IJ] at xb;have d0:decide ((qa:Int)<0)=false:=Ad A0;by_cases hgt:qa<qb
        ·have D6:=A3 (show ¬(a∈ord∧pos b≤pos a) from fun h=>by have:=h.2;omega)
         have d1:decide ((qa:Int)<(qb:Int))=true:=Ac A0;have d2:decide (qa<qb)=true:=Ac hgt;clear MF IJ hgt hao Rt;go_upto_region 20 with fail;refine j7 (x:=y) A4 A4 ?_;repeat (go_big_quiet_step (fail))
         refine BD ?_;rintro _ ⟨y2,rfl⟩;have HY:=A3 (BX.out.trans (y2.h.mono BX.out.size));clear xa xb z0 z1;go_wp2_with fail;go_roundw;case rel=>exact⟨k+1,val,by omega,by go_num,Pv HG.out HY.out,by rw [CT.out,vI D6.out];exact O3.out.below HY.out,by rw [CT.out];exact Ea.out.snoc fun h1 h2=>absurd ⟨h1,h2⟩ D6.out⟩
         case measure=>exact Ai
        ·have OO:=A3 (show a∈ord∧pos b≤pos a from⟨hao,by omega⟩)
         have d1:decide ((qa:Int)<(qb:Int))=false:=Ad A0;have d2:decide (qa<qb)=false:=Ad hgt;clear MF IJ hgt Rt;go_upto_region 20 with fail;refine j7 (x:=y) A4 A4 ?_;repeat (go_big_quiet_step (fail))
         refine BD ?_;rintro _ ⟨y2,rfl⟩;have HY:=A3 (BX.out.trans (y2.h.mono BX.out.size));clear xa xb z0 z1;have nB:=A3 (aaI EG.out HIT.out (by rw [HM.out];exact Ot) hn _ b a y2.w ((Ny.out.ints HG.out HDV.out).below HY.out) DC hao);clear hao;by_cases Va:Ae D a b
         ·have HDM:=A3 (nB.out.mono fun e w' (h:(∃r:Bool,e=.returned (.bool r)∧(r=true↔Ae D a b))∧Below y2.w.heap.size y2.w w')=>(show e=.returned (.bool true)∧Below y2.w.heap.size y2.w w' from by
           obtain⟨⟨r,rfl,hr⟩,hb⟩:=h;rw [hr.2 Va]
           exact⟨rfl,hb⟩))
          have Xz:=A3 (show LY ord pos D (EL.take (k+1)) by rw [CT.out];exact Ea.out.snoc fun _ _=>Va);clear Va;go_upto_region 23 with (go_at_call 39;refine HDM.out.mono ?_;rintro e W7 ⟨rfl,hb7⟩);have b7:=HY.out.trans (hb7.mono HY.out.size);have⟨Vx,G7⟩:=AQ (O3.out.below b7) (Pv HG.out b7);have hl:=Vx.out.look (i:=b) A0;have hown:=Vx.out.own b;have iN:=Vx.out.ne b;obtain⟨FL,Ri⟩:∃l,Dz ord pos (EL.take k) b=l:=⟨_,rfl⟩;have hFn:FL.length≤ne:=by
           have:=oy ord pos (EL.take k) b;rw [Ri] at this;have h2:(EL.take k).length≤k:=by simp;omega
           omega
          rw [Ri] at hown;obtain⟨vA,Cv,Je⟩:∃vA Cv,val b=.slice vA FL.length Cv:=by
           rcases hown.2 with⟨h,h'⟩|⟨g,cap',cur,h,_⟩
           ·exact⟨_,_,by rw [h,h']⟩
           ·exact⟨_,_,h⟩
          rw [Je] at hl hown iN;have⟨HVE,UQ,RU,arx⟩:=CU Je Ri hown iN;have smb:=Vx.out.im.lt;have sV7:=G7.out.size;obtain⟨iI,Ef,Es,EN,FN⟩:=Dp Oy;obtain⟨W7',hW7⟩:∃W:World,W=W7:=⟨_,rfl⟩;subst hW7;clear Je Ri hown iN b7 hb7;go_wp2_with (first|(at_builtin;refine Lx _ rfl (.tmp 89) (.tmp 91) 38 rfl V.heap.size 3 iI (.int .i64 0) 1 8 JJ Ef Es EN FN rfl AP (.slice vA FL.length Cv) _ _ rfl (RU.out.alloc _) ⟨W7'.heap.size,0,none⟩ 1 1 [.int .i64 (a:Int)] rfl rfl (Du _ _ _) Bd CJ A0 I7 ?_;intro v' W' hown' hgrow _ DY;obtain⟨g',cap',rfl⟩:=Mp hown';obtain⟨W8,hput,hm8,o1,o2,o3,o4,o5⟩:=(Vx.out.im.keep ((hgrow.block mb CD arx.out).trans (Bv _ _ smb))).put (P:=Tryz.prog) (kt:=3) (t:=107) (e:=38) Db jZ (k:=(b:Int)) (JA A0 A0) (.slice (some ⟨g',0,none⟩) (FL.length+1) cap');simp only [kv] at hput));go_roundw;case rel=>
           have bA:Below W7'.heap.size W7' (W7'.alloc (.cells #[.int .i64 (a:Int)] 3)):=(AV _ _).alloc (AH _) _;refine⟨k+1,upd val b (.slice (some ⟨g',0,none⟩) (FL.length+1) cap'),by omega,by go_num,?_,?_,Xz.out⟩
           ·exact arW (gD (Pv G7.out bA) hgrow (fun q hq=>(RU.out.lt q hq).1)) o1 o2 o3 o4 o5
           ·rw [CT.out,apS OO.out.1 OO.out.2]
            exact Vx.out.app bA (by rw [HVE.out];exact hgrow) (by rw [UQ.out];exact hown') (by rw [HVE.out];exact DY) hm8 o4 o5 o1 o2 o3
          case measure=>exact Ai
         ·have HDM:=A3 (nB.out.mono fun e w' (h:(∃r:Bool,e=.returned (.bool r)∧(r=true↔Ae D a b))∧Below y2.w.heap.size y2.w w')=>(show e=.returned (.bool false)∧Below y2.w.heap.size y2.w w' from by
           obtain⟨⟨r,rfl,hr⟩,hb⟩:=h;have:r=false:=by
            cases r with
            | false=>rfl
            | true=>exact absurd (hr.1 rfl) Va
           rw [this]
           exact⟨rfl,hb⟩))
          have XI:=A3 (show ¬LY ord pos D EL from fun h=>Va (by
           have:=h ((a:Int),(b:Int)) (rK (i:=k+1) (by rw [CT.out];simp))
           simpa using this OO.out.1 OO.out.2))
          clear Va;go_wp2_with (go_at_call 39;refine HDM.out.mono ?_;rintro e W7 ⟨rfl,hb7⟩);refine Af (results_tmp3 rfl _ _ _) rfl ⟨⟨D,LN.out,.inr ⟨_,rfl,XI.out⟩⟩,?_⟩;exact (((B0.out.trans (Hl.out.mono B0.out.size)).grown (Pv HG.out HY.out) (by have:=B0.out.size;have:=Hl.out.size;omega) (fun k hk=>by cases hk;exact QV.out)).trans (hb7.mono (by have:=B0.out.size;have:=Hl.out.size;have:=(Pv HG.out HY.out).size;omega)))
       ·have D6:=A3 (show ¬(a∈ord∧pos b≤pos a) from fun h=>hao h.1)
        rw [A6 hao] at xa;have d0:decide ((-1:Int)<0)=true:=by decide
        clear hao;go_upto_region 20 with fail;refine j7 (x:=y) A4 A4 ?_;repeat (go_big_quiet_step (fail))
        refine BD ?_;rintro _ ⟨y2,rfl⟩;have HY:=A3 (BX.out.trans (y2.h.mono BX.out.size));clear xa xb z0 z1;go_wp2_with fail;go_roundw;case rel=>exact⟨k+1,val,by omega,by go_num,Pv HG.out HY.out,by rw [CT.out,vI D6.out];exact O3.out.below HY.out,by rw [CT.out];exact Ea.out.snoc fun h1 h2=>absurd ⟨h1,h2⟩ D6.out⟩
        case measure=>exact Ai
      ·obtain rfl:ne=k:=by omega
       have dl:decide ((ne:Int)<(ne:Int))=false:=by simp
       have Dx:EL.take ne=EL:=K8 (by rw [KL.out];exact AH _);rw [Dx] at J2;obtain⟨F,hF⟩:∃f,Dz ord pos EL=f:=⟨_,rfl⟩;rw [hF] at J2;have⟨HF,HGF⟩:=AQ hF J2;have Xz:=A3 (show LY ord pos D EL by have:=Ea.out;rwa [Dx] at this);have P9:=A3 (show ∀h,∀l∈F h,l<G.length∧l∈ord∧h<G.length∧h∈ord from fun h l hl=>by
        rw [←hF] at hl;obtain⟨e,h1,h2,h3,h4⟩:=atE l hl;obtain⟨a,b,rfl,h5,h6,h7⟩:=Vn OL.out (e:=e) (by rw [HEL.out];exact h1);simp only [Cu] at h2 h3;subst h2 h3
        exact⟨h5,h4,h6,EG.out.closed _ h4 _ h7⟩)
       have HNN:=A3 (show ∀h,F h≠[]→h<G.length∧h∈ord from fun h hh=>by
        obtain⟨l,hl⟩:=List.exists_mem_of_ne_nil _ hh
        exact (P9.out h l hl).2.2)
       obtain⟨X,hX⟩:=A8 (wr.alloc (.cells #[.map (some mb)] 107));have bX:Below wr.heap.size wr X:=hX▸(AV _ _).alloc (AH _) _;have HK:=A3 (show Calls Tryz.prog 41 #[.map (some mb)] wr fun e w'=>e=.returned (.func (.func 71) #[] #[.pointer (some ⟨wr.heap.size,0,none⟩)])∧X=w' from (ae9 (some mb) wr).mono fun e w' ⟨h1,h2⟩=>⟨h1,by rw [h2,hX]⟩);have HSO:=A3 (apA mb wr.heap.size G.length (KD F val) X (J2.im.below bX J2.im.lt) (fun k v hk=>by
        have:=aY.1 (show KD F val k≠none by rw [hk];simp);have:=(HNN.out _ this.2).1
        omega) A0 (by rw [←hX];simp) (by
        have k:X.heap[wr.heap.size]?=some (.cells #[.map (some mb)] 107 (0,0)):=hX▸AY _ _
        simp [World.cell?,k]))
       have BX:=A3 bX;clear J2 hg Dx hF hX bX Ea KL dl he1 he2;go_upto_region 27 with (first|(go_at_call 41;refine HK.out.mono ?_;rintro e w' ⟨rfl,rfl⟩)|(go_at_call 40;refine HSO.out.mono ?_;rintro e W9 ⟨hv,hs,rfl,jw,hsk,hb9⟩;obtain⟨hA,hcap,rfl⟩:=jc jw));have b9:=BX.out.trans (hb9.mono BX.out.size);have⟨G9,GM9⟩:=AQ (Pv HG.out b9) (HGF.out.below b9);have sVX:V.heap.size≤X.heap.size:=by have:=HG.out.size;have:=BX.out.size;omega
       have⟨HS9,HSK⟩:=AQ (jv jw sVX) hsk;obtain⟨hn9,Vp⟩:∃n,hs.length=n:=⟨_,rfl⟩;rw [Vp] at HS9 ⊢;have HHN:=A3 Vp;have auE:hn9≤5000:=by
        have:=oO (n:=G.length) (l:=hs) (hsk.Ry.imp fun {a b} h=>by omega) (fun x hx=>by
         have:=aY.1 ((hsk.mem x).1 hx);have:=(HNN.out _ this.2).1
         omega)
        omega
       obtain⟨iL,IY,Um,hL1,hL2⟩:=Dp aee;clear jw hsk hb9 b9 Vp O3 HG HGF BX HK HSO sVX;go_loopw [15,98] (fun a15 a98 wr=>∃(j:Nat) (lvv:Value) (Q:List Qp) (L:List Lp),j≤hn9∧a98=.int .i64 (j:Int)∧a15=lvv∧V.grownBy wr (some mb)∧GM V.heap.size wr mb F val∧wr.ownsRow V.heap.size 3 1 (.slice hA hn9 hcap) hn9 (Aq hs)∧LL V.heap.size wr lvv Q L∧L.map (·.h)=hs.take j∧∀x∈L,x.la=Bg (F x.h.toNat)∧XL (Ck P) (·∈ord) x.h.toNat (F x.h.toNat) x.bl) (fun _ a98 _=>hn9 - (intOf a98).toNat);case atStart=>exact⟨0,_,[],[],Ca _,rfl,rfl,G9.out,GM9.out,HS9.out,LL.nil _ _,by simp,by simp⟩
       case round=>
        clear G9 GM9 HS9;obtain⟨j,lvv,Q,L,hj,rfl,rfl,hg,J2,GV,Gi,Vo,hLe⟩:=hrel;obtain⟨lA,jR,rfl⟩:=jc Gi.row;have⟨HG,O3,HRS,M0,HLM,Ni⟩:=Lt hg J2 GV Gi Vo hLe;have sVw:=hg.size;have Vh:Q.length=j∧L.length=j:=by
         have h1:=congrArg List.length Vo;have h2:=Gi.len;have h3:=HHN.out;simp at h1;omega
        have HQL:=A3 Vh;by_cases hlt:j<hn9
        ·have dl:decide ((j:Int)<(hn9:Int))=true:=Ac A0
         obtain⟨hx,hhx⟩:∃x,hs[j]?=some x:=⟨_,Ab (by rw [HHN.out];exact hlt)⟩;have hxs:=aY.1 ((HSK.out.mem hx).1 (Bj hhx));obtain⟨h,rfl⟩:∃h:Nat,hx=(h:Int):=⟨hx.toNat,by omega⟩;rw [Cu] at hxs;obtain⟨Vp,Re⟩:=HNN.out h hxs.2;obtain⟨hb,hbe,hbl,hc⟩:∃hb,hA=some ⟨hb,0,none⟩∧hb<wr.heap.size∧wr.cell? ⟨hb,j,none⟩=some (.int .i64 (h:Int)):=by
          rcases GV.2 with⟨e,h0⟩|⟨g,cap',cur,e,_⟩
          ·omega
          ·cases e
           refine⟨g,rfl,(GV.lt g rfl).2,?_⟩;rw [fo GV HHN.out hlt];simp [List.getD,hhx]
         subst hbe;have CT:=A3 (show hs.take (j+1)=hs.take j++[(h:Int)] by rw [I6,hhx];rfl);have hl:=J2.look (i:=h) A0;have hown:=J2.own h;obtain⟨vA,Cv,Je⟩:∃vA Cv,val h=.slice vA (F h).length Cv:=by
          rcases hown.2 with⟨h1,h'⟩|⟨g,cap',cur,h1,_⟩
          ·exact⟨_,_,by rw [h1,h']⟩
          ·exact⟨_,_,h1⟩
         obtain⟨FL,Ri⟩:∃l,F h=l:=⟨_,rfl⟩;rw [Ri] at Je hown;rw [Je] at hl hown;obtain⟨fn,hfn⟩:∃n,FL.length=n:=⟨_,rfl⟩;have⟨Tn,RU,UQ⟩:=Bh hfn hown Ri;rw [hfn] at hl Je;have HVE:=A3 Je;clear hhx hxs hg J2 GV Gi Vo hLe Vh Je hfn hown Ri;go_upto_region 30 with fail;obtain⟨q18,XB⟩:∃q,wr.heap.size=q:=⟨_,rfl⟩;obtain⟨X1,NB⟩:∃X,wr.alloc (.cells #[.int .i64 (h:Int),.slice none 0 0,.slice vA fn Cv,.int .i64 (-1)] 46)=X:=⟨_,rfl⟩;rw [NB,XB];have b1:Below wr.heap.size wr X1:=NB▸(AV _ _).alloc (AH _) _;have k1:X1.heap[q18]?=some (.cells #[.int .i64 (h:Int),.slice none 0 0,.slice vA fn Cv,.int .i64 (-1)] 46 (0,0)):=by rw [←XB,← NB];exact AY _ _
         have GX:=Pv HG.out b1;have HP1:=A3 (Ny.out.lls GX (HPV.out.below Hl.out));have g0:=Ny.out.cell GX kgV;have g1:=Ny.out.cell GX tP;have asN:=A3 (show fO X1 pb 0 G.length (·∈ord) from⟨by have:=GX.size;omega,fun k hk=>by
          have h1:=Ny.out.cell GX (WQ.out k hk);rw [aH EG.out hk] at h1;refine⟨_,by rw [Er];exact h1,?_⟩;by_cases hko:k∈ord
          ·rw [A9 hko];simp [hko]
          ·rw [A6 hko];simp [hko]⟩)
         have UL:=A3 (show Ints X1 (.slice vA fn Cv) (Bg FL) from NT (by
          have:=CS RU.out b1;rw [Tn.out] at this;rw [show (Bg FL).length=fn by rw [Bg,FQ,Tn.out]]
          exact this))
         have hl1:=(O3.out.below b1).look (i:=h) A0;rw [HVE.out] at hl1;have asz:=Re;have mM:=A3 (asU OL.out hn (fun x hx=>EG.out.lt x hx) X1 pb 0 G.length h (.slice A G.length cap) (.slice PA P.length B7) (.slice vA fn Cv) FL HP1.out asN.out UL.out Vp Re (fun l hl=>(P9.out h l (by rw [UQ.out];exact hl)).1));have⟨B1X,K1X⟩:=AQ b1 k1;have sx1:X1.heap.size=q18+1:=by rw [←NB,F9,XB]
         have xQ:=A3 XB;have bx:=FY k1;have bx4:=bx.2.2.2.2;clear NB XB b1 k1 GX Re asz hl bx;go_upto_region 31 with (go_at_call 42;refine mM.out.mono ?_;rintro e W2 ⟨bv2,bl,rfl,Rt,hbd,hb2⟩;obtain⟨bA,GF,rfl⟩:=jc Rt;have k2:=(hb2.block q18 bx4).trans K1X.out;have k2c:=(FY k2).2.1;have k2f:=atI k2 1;have k2s:=(FY k2).2.2.2.2);obtain⟨X2,Fc⟩:∃X,W2.setCell ⟨q18,1,none⟩ (.slice bA bl.length GF)=X:=⟨_,rfl⟩;rw [Fc];have k18:X2.heap[q18]?=some (.cells #[.int .i64 (h:Int),.slice bA bl.length GF,.slice vA fn Cv,.int .i64 (-1)] 46 (0,0)):=Fc▸Cl W2 q18 1 _ _ _ k2;obtain⟨c0,c1,c2,c3,c4⟩:=FY k18;have hwq:=xQ.out;have bX2:Below wr.heap.size wr X2:=Fc▸(B1X.out.trans (hb2.mono B1X.out.size)).setCell (p:=⟨q18,1,none⟩) (by show wr.heap.size≤q18;omega) _;have Gh:=A3 (show X2.ownsRow V.heap.size 3 1 (.slice bA bl.length GF) bl.length (Aq bl) from Fc▸(jv Rt A0).kept (Hz W2 q18 1 _) (by
          cases hu:(Value.slice bA bl.length GF).ownBlock with
          | none=>exact .inl rfl
          | some q=>exact .inr fun e=>by have:=(Rt.lt q hu).1;cases e;omega))
         have HLV:=A3 (show X2.ownsRow V.heap.size 3 1 (.slice vA fn Cv) (Bg FL).length (Aq (Bg FL)) by
          have:=CS RU.out bX2;rw [Tn.out] at this;rw [show (Bg FL).length=fn by rw [Bg,FQ,Tn.out]]
          exact this)
         have OD:=A3 (M0.out.below bX2);have hrow:=OD.out.row;have hQ:Q.length≤5000:=by have:=HQL.out.1;omega
         have⟨fB,BX2,Wb⟩:=Bh hrow bX2 hbd;have auV:V.heap.size≤X2.heap.size:=by have:=bX2.size;omega
         clear hwq Fc k18 bX2 hrow Rt hbd hb2 k2 k2c k2f k2s mM hl1 hc g0 g1;go_wp2_with (at_builtin;refine Lx _ rfl (.tmp 115) (.tmp 117) 35 rfl V.heap.size 46 iL _ 4 64 Tryz.underlying35 IY Um hL1 hL2 rfl AP (.slice lA Q.length jR) _ _ rfl (fB.out.alloc _) ⟨X2.heap.size,0,none⟩ 1 1 [.int .i64 (h:Int),.slice bA bl.length GF,.slice vA fn Cv,.int .i64 (-1)] rfl rfl (arc _ _ _ _ _ _) Bd CJ A0 I7 ?_;intro v' W' hown' hgrow _ DY;obtain⟨g',cap',rfl⟩:=Mp hown');go_roundw;case rel=>
          have bA2:Below X2.heap.size X2 (X2.alloc (.cells #[.int .i64 (h:Int),.slice bA bl.length GF,.slice vA fn Cv,.int .i64 (-1)] 46)):=(AV _ _).alloc (AH _) _;have bW:=BX2.out.trans (bA2.mono BX2.out.size);have hrA:=fB.out.alloc (.cells #[.int .i64 (h:Int),.slice bA bl.length GF,.slice vA fn Cv,.int .i64 (-1)] 46);refine⟨j+1,_,Q++[⟨(h:Int),.slice bA bl.length GF,.slice vA fn Cv,-1⟩],L++[⟨(h:Int),bl,Bg FL⟩],by omega,by go_num,rfl,?_,(O3.out.below bW).apK hrA hgrow,Py (CS HRS.out bW) hrA hgrow,OD.out.app (q:=⟨(h:Int),.slice bA bl.length GF,.slice vA fn Cv,-1⟩) (x:=⟨(h:Int),bl,Bg FL⟩) bA2 hgrow hown' ⟨rfl,Gh.out,HLV.out⟩,?_,fun x hx=>?_⟩
          ·exact gD (Pv HG.out bW) hgrow (fun q hq=>(fB.out.lt q hq).1)
          ·rw [Qh,HLM.out,CT.out];rfl
          ·rcases Ch.1 hx with hx|hx
           ·exact Ni.out x hx
           ·obtain rfl:x=⟨(h:Int),bl,Bg FL⟩:=by simpa using hx
            simp only [Cu];rw [UQ.out];exact⟨rfl,Wb.out⟩
         case measure=>exact Ai
        ·obtain rfl:hn9=j:=by omega
         have dl:decide ((hn9:Int)<(hn9:Int))=false:=by simp
         have HLR:=A3 (show Hy P ord pos EL D L from⟨Xz.out,by rw [Vo,K8 (by rw [HHN.out];exact AH _)];exact HSK.out.Ry,fun x=>by rw [Vo,K8 (by rw [HHN.out];exact AH _),HSK.out.mem,aY,HF.out],fun x hx=>by rw [HF.out];exact hLe x hx⟩);have hQ:=Vh.1;have hL9:L.length≤1000000:=by have:=Vh.2;omega
         have HL9:=A3 Vh.2;have HLQ:=A3 (show LL V.heap.size wr (.slice lA hn9 jR) Q L by have:=Gi;rwa [hQ] at this);rw [hQ];clear hg J2 GV Gi Vo hLe Vh HRS O3 hQ M0;go_upto_region 34 with fail;go_loopw [122] (fun gH wr=>∃(i:Nat) (Q:List Qp),i≤hn9∧gH=.int .i64 (i:Int)∧V.grownBy wr (some mb)∧LL V.heap.size wr (.slice lA hn9 jR) Q L) (fun gH _=>hn9 - (intOf gH).toNat);case atStart=>exact⟨0,Q,Ca _,rfl,HG.out,HLQ.out⟩
         case round=>
          clear HLQ HG;obtain⟨i,Q5,hi,rfl,hg,Gi⟩:=hrel;have⟨HG,M0⟩:=AQ hg Gi;have sVw:=hg.size;by_cases hlt:i<hn9
          ·have dl:decide ((i:Int)<(hn9:Int))=true:=Ac A0
           have i1:(i:Int)<(hn9:Int):=by omega
           obtain⟨g,hge,Sj,hgl⟩:∃g,lA=some ⟨g,0,none⟩∧V.heap.size≤g∧g<wr.heap.size:=by
            rcases Gi.row.2 with⟨e,_⟩|⟨g,cap',cur,e,_⟩
            ·cases e;omega
            ·cases e;exact⟨g,rfl,Gi.row.lt g rfl⟩
           subst hge;have hQn:Q5.length=hn9:=by rw [Gi.len,HL9.out]
           obtain⟨q,hq⟩:∃q,Q5[i]?=some q:=⟨_,Ab (by rw [hQn];exact hlt)⟩;have HQI:=A3 hq;have aew:=A3 (ar5 _ L i wr Gi.Ox (by rw [HL9.out];exact hlt) hL9);have apu:=A3 (show ∀W3,Below wr.heap.size wr W3→W3.cell? ⟨g,i*4+3,none⟩=some (.int .i64 q.p)∧W3.frozen? ⟨g,i*4+3,none⟩=false∧g<W3.heap.size from fun W3 hb=>by
            have h3:=Gi.below hb;have hr:=h3.row;rw [hQn] at hr;refine⟨?_,hr.frozenAt _,by have:=hb.size;omega⟩;rw [hr.cellAt _ A0,lF Q5 i 3 q hq A0]
            rfl)
           clear hg Gi hq hQn;go_wp2_with (go_at_call 43;refine aew.out.mono ?_;rintro e W3 ⟨⟨r,rfl⟩,hb3⟩;obtain⟨cc1,cc2,cc3⟩:=apu.out W3 hb3);go_roundw;case rel=>exact⟨i+1,_,by omega,by go_num,gD (Pv HG.out hb3) (Hz W3 g _ _) (fun k hk=>by cases hk;exact Sj),(M0.out.below hb3).apQ HQI.out r⟩
           case measure=>exact Ai
          ·obtain rfl:hn9=i:=by omega
           have dl:decide ((hn9:Int)<(hn9:Int))=false:=by simp
           clear hg Gi;go_wp2_with fail;refine Af (results_tmp3 rfl _ _ _) rfl ⟨⟨D,LN.out,.inl ⟨_,L,rfl,M0.out.Ox,HLR.out⟩⟩,?_⟩;exact (B0.out.trans (Hl.out.mono B0.out.size)).grown HG.out (by have:=B0.out.size;have:=Hl.out.size;omega) (fun k hk=>by cases hk;exact QV.out)
end Go.Proofs.YtlmgkipmfgijiaaGreatDoor
