/-
  What is proved here: parts pPar, pSort, pVis, pBody, pMem, pMem2, pFind, ppRow.
-/
import Derived.Test.YtlmgkipmfgijiaaGreatDoorVa
import Derived.Test.YtlmgkipmfgijiaaGreatDoorVe
import Derived.Shelf.SlIterI.Nil
import Derived.Shelf.SlIterI.Sorted
import Derived.Shelf.SortM.Plain
import Derived.Shelf.SortM.SortNone
import Derived.Ground.GgzProg
import Derived.Ground.SlgmProg
import Derived.Laws.EntriesVeiled
import Derived.Test.YtlmgkipmfgijiaaGreatDoorVb
import Derived.Maps.AppendAt
import Derived.Laws.AppendOwnNone
import Derived.Laws.OwnMore
namespace Go.Proofs.YtlmgkipmfgijiaaGreatDoor
set_option linter.unusedVariables false
set_option linter.unusedSimpArgs false
set_option maxRecDepth 100000
set_option maxHeartbeats 8000000
open Go.RowKit
structure Lp where
 h:Int
 bl:List Int
 la:List Int
def Zf (w w':World) (b o:Nat) (x:Lp):Prop:=
 w'.cell? ⟨b,o,none⟩=some (.int .i64 x.h)∧(∃v,w'.cell? ⟨b,o+1,none⟩=some v∧Ints w v x.bl)∧(∃v,w'.cell? ⟨b,o+2,none⟩=some v∧Ints w v x.la)∧∃p:Int,w'.cell? ⟨b,o+3,none⟩=some (.int .i64 p)
def Ih (w:World) (v:Value) (L:List Lp):Prop:=
 ∃A cap,v=.slice A L.length cap∧L.length≤cap∧cap≤maxLen∧(0<L.length→∃b off,A=some ⟨b,off,none⟩∧b<w.heap.size∧∀(k:Nat) (x:Lp),L[k]?=some x→Zf w w b (off+k*4) x)
theorem Zf.below {w w':World} {b o:Nat} {x:Lp} (h:Zf w w b o x) (hb:Below w.heap.size w w') (hl:b<w.heap.size):Zf w w' b o x:=by
 obtain⟨h1,⟨v,h2,h3⟩,⟨u,h4,h5⟩,p,h6⟩:=h;exact⟨(hb.cell (p:=⟨b,_,none⟩) hl).trans h1,⟨v,(hb.cell (p:=⟨b,_,none⟩) hl).trans h2,h3⟩,⟨u,(hb.cell (p:=⟨b,_,none⟩) hl).trans h4,h5⟩,p,(hb.cell (p:=⟨b,_,none⟩) hl).trans h6⟩
theorem Ih.below {w w':World} {v:Value} {L:List Lp} (h:Ih w v L) (hb:Below w.heap.size w w'):Ih w' v L:=by
 obtain⟨A,cap,h1,h2,h3,h4⟩:=h;refine⟨A,cap,h1,h2,h3,fun h0=>?_⟩;obtain⟨b,off,e,hl,hc⟩:=h4 h0;refine⟨b,off,e,by have:=hb.size;omega,fun k x hx=>?_⟩;obtain⟨h1,⟨v,h2,h3⟩,⟨u,h4,h5⟩,p,h6⟩:=(hc k x hx).below hb hl;exact⟨h1,⟨v,h2,h3.below hb⟩,⟨u,h4,h5.below hb⟩,p,h6⟩
theorem Ep {w:World} {b:Nat} {a c d e:Value} {t:TypeId} (h:w.heap[b]?=some (.cells #[a,c,d,e] t (0,0))):w.cell? ⟨b,0,none⟩=some a∧w.cell? ⟨b,1,none⟩=some c∧w.cell? ⟨b,2,none⟩=some d∧w.cell? ⟨b,3,none⟩=some e∧b<w.heap.size:=
 ⟨by simp [World.cell?,h],by simp [World.cell?,h],by simp [World.cell?,h],by simp [World.cell?,h],(Be.1 h).1⟩
theorem abK (v:Value) (L:List Lp) (i:Nat) (w:World) (HL:Ih w v L) (hi:i<L.length) (hn5:L.length≤1000000) :
  Calls Tryz.prog 43 #[v,.int .i64 (i:Int)] w fun e w'=>apr e∧Below w.heap.size w w':=by
 obtain⟨A,cap,rfl,hc1,hc2,h4⟩:=HL;obtain⟨q,off,rfl,hq,hc⟩:=h4 A0;obtain⟨n,hn⟩:=AA L.length;rw [hn] at hi hn5 ⊢;have⟨HN,HC⟩:=AL hn hc;obtain⟨x,hx⟩:∃x,L[i]?=some x:=⟨_,Aj (by rw [HN.out];exact hi)⟩;obtain⟨c0,⟨bv,c1,Du⟩,⟨lv,c2,hlv⟩,p0,c3⟩:=hc i x hx;obtain⟨BA,Fp,rfl,hb1,hb2⟩:=Du.slice;obtain⟨ZA,qg,rfl,-,-⟩:=hlv.slice;obtain⟨zn,hzn⟩:∃n,x.la.length=n:=⟨_,rfl⟩;rw [hzn] at c2;obtain⟨bn,Cc⟩:∃n,x.bl.length=n:=⟨_,rfl⟩;rw [Cc] at c1;obtain⟨xh,Fg⟩:∃h,x.h=h:=⟨_,rfl⟩;rw [Fg] at c0;have⟨Ec,Wc⟩:=AL Du Cc;have i1:(i:Int)<(n:Int):=by omega
 clear h4 hc hx hn hc1 hc2 Du hlv hb1 hb2 Cc Fg hzn;go_enter Tryz.func43,Tryz.ntmps43;go_upto_region 3 with fail;obtain⟨q6,hq6⟩:∃q,w.heap.size=q:=⟨_,rfl⟩;obtain⟨V,hV⟩:=AA (w.alloc (.cells #[.int .i64 xh,.slice BA bn Fp,.slice ZA zn qg,.int .i64 p0] 46));rw [hV,hq6];have b1:Below w.heap.size w V:=hV▸(AP _ _).alloc (AH _) _;have k6:V.heap[q6]?=some (.cells #[.int .i64 xh,.slice BA bn Fp,.slice ZA zn qg,.int .i64 p0] 46 (0,0)):=by rw [←hq6,← hV];exact Ai _ _
 have⟨K6,B1⟩:=AL k6 b1;have lq6:=(Ep k6).2.2.2.2;clear k6 b1 hV hq6 c0 c1 c2 c3 i1;go_upto_region 4 with fail;go_loopw [5,15] (fun a5 a15 wr=>∃(k:Nat) (best:Int),k≤n∧(best = -1∨0≤best∧best<(n:Int))∧a15=.int .i64 (k:Int)∧a5=.int .i64 best∧Below V.heap.size V wr) (fun _ a15 _=>n - (intOf a15).toNat);case atStart=>exact⟨0,-1,Ck _,.inl rfl,rfl,rfl,AP _ _⟩
 case round=>
  obtain⟨k,best,hk,XH,rfl,rfl,hb⟩:=hrel;have HW:=A3 hb;have hsz:=hb.size;have HWB:=A3 (B1.out.trans (hb.mono B1.out.size));by_cases hlt:k<n
  ·have dl:decide ((k:Int)<(n:Int))=true:=AR A0
   obtain⟨y,hy⟩:∃x,L[k]?=some x:=⟨_,Aj (by rw [HN.out];exact hlt)⟩;obtain⟨c0,⟨yv,c1,hyv⟩,⟨zv,c2,hzv⟩,p1,c3⟩:=(HC.out k y hy).below HWB.out hq;obtain⟨YA,jO,rfl,hy1,hy2⟩:=hyv.slice;obtain⟨TA,oJ,rfl,-,-⟩:=hzv.slice;obtain⟨tn,htn⟩:∃n,y.la.length=n:=⟨_,rfl⟩;rw [htn] at c2;obtain⟨yn,TF⟩:∃n,y.bl.length=n:=⟨_,rfl⟩;rw [TF] at c1;obtain⟨yh,WS⟩:∃h,y.h=h:=⟨_,rfl⟩;rw [WS] at c0;have⟨HYV,HYN⟩:=AL hyv TF;have sq:q<wr.heap.size:=by have:=HWB.out.size;omega
   have i1:(k:Int)<(n:Int):=by omega
   clear hb hy hyv hzv hy1 hy2 TF WS htn;go_upto_region 6 with fail;obtain⟨q8,hq8⟩:∃q,wr.heap.size=q:=⟨_,rfl⟩;obtain⟨X,hX⟩:=AA (wr.alloc (.cells #[.int .i64 yh,.slice YA yn jO,.slice TA tn oJ,.int .i64 p1] 46));rw [hX,hq8];have bX:Below wr.heap.size wr X:=hX▸(AP _ _).alloc (AH _) _;have k8:X.heap[q8]?=some (.cells #[.int .i64 yh,.slice YA yn jO,.slice TA tn oJ,.int .i64 p1] 46 (0,0)):=by rw [←hq8,← hX];exact Ai _ _
   obtain⟨z0,z1,-,-,z4⟩:=Ep k8;have VN:Below V.heap.size V X:=HW.out.trans (bX.mono hsz);obtain⟨y0,y1,-,-,y4⟩:=Ep ((VN.block q6 lq6).trans K6.out);have YX:Below w.heap.size w X:=B1.out.trans (VN.mono B1.out.size);have⟨ZC,HWX⟩:=AL VN YX;have sqX:q<X.heap.size:=by have:=YX.size;omega
   have eG:=VN.size;have qy:=A3 (fun (W:World) (hW:Below X.heap.size X W)=>apm (.slice YA yn jO) (.slice BA bn Fp) y.bl x.bl W (by have:=(HYV.out.below YX).below hW;rw [HYN.out] at this;exact this) (by have:=(Ec.out.below YX).below hW;rw [Wc.out] at this;exact this));clear bX k8 hX hq8 c0 c1 c2 c3 VN YX sq;by_cases hh:yh=xh
   ·have e1:(yh==xh)=true:=V7.2 hh
    go_wp2_with fail;go_roundw;case rel=>exact⟨k+1,best,by omega,XH,by go_num,rfl,ZC.out⟩
    case measure=>exact Aa
   ·have e1:(yh==xh)=false:=Ls.2 hh
    by_cases hl:yn<bn
    ·have e2:decide ((yn:Int)<(bn:Int))=true:=AR A0
     have e3:decide (yn<bn)=true:=AR hl;go_wp2_with fail;go_roundw;case rel=>exact⟨k+1,best,by omega,XH,by go_num,rfl,ZC.out⟩
     case measure=>exact Aa
    ·have e2:decide ((yn:Int)<(bn:Int))=false:=Aq A0
     have e3:decide (yn<bn)=false:=Aq hl;have HBE:=A3 XH;by_cases hneg:best<0
     ·have e4:decide ((0:Int)≤best)=false:=Aq A0
      clear XH;go_upto_region 7 with fail;refine Cg A6 A6 ?_;repeat (go_big_quiet_step (fail))
      refine Ba ?_;rintro _ ⟨s,rfl⟩;have hsx:=s.h.size;have a1:=s.cell q8 1 z4;have a2:=s.cell q6 1 y4;rw [z1] at a1;rw [y1] at a2;have sl1:q8<s.w.heap.size:=by omega
      have sl2:q6<s.w.heap.size:=by omega
      clear z0 z1 y0 y1;go_wp2_with (go_at_call 74;refine (qy.out s.w s.h).mono ?_;rintro e W9 ⟨⟨r,rfl⟩,hb9⟩);all_goals have Wi:=A3 (ZC.out.trans ((s.h.trans (hb9.mono s.h.size)).mono eG))
      all_goals go_roundw
      case rel=>exact⟨k+1,(k:Int),by omega,.inr ⟨by omega,by omega⟩,by go_num,rfl,Wi.out⟩
      case measure=>exact Aa
      case rel=>exact⟨k+1,best,by omega,HBE.out,by go_num,rfl,Wi.out⟩
      case measure=>exact Aa
     ·obtain⟨m,rfl⟩:∃m:Nat,best=(m:Int):=⟨best.toNat,by omega⟩
      have hmn:m<n:=by omega
      have e4:decide ((0:Int)≤(m:Int))=true:=AR A0;obtain⟨z,hz⟩:∃x,L[m]?=some x:=⟨_,Aj (by rw [HN.out];exact hmn)⟩;obtain⟨-,⟨uv,c1,huv⟩,-,-⟩:=(HC.out m z hz).below HWX.out hq;obtain⟨UA,arM,rfl,-,-⟩:=huv.slice;obtain⟨un,hun⟩:∃n,z.bl.length=n:=⟨_,rfl⟩;rw [hun] at c1;have i2:(m:Int)<(n:Int):=by omega
      clear XH hz huv hun hneg;by_cases hu:un≤yn
      ·have e5:decide ((un:Int)≤(yn:Int))=true:=AR A0
       have e6:decide (un≤yn)=true:=AR hu;go_upto_region 7 with fail;refine Cg A6 A6 ?_;repeat (go_big_quiet_step (fail))
       refine Ba ?_;rintro _ ⟨s,rfl⟩;have hsx:=s.h.size;have a1:=s.cell q8 1 z4;have a2:=s.cell q6 1 y4;rw [z1] at a1;rw [y1] at a2;have sl1:q8<s.w.heap.size:=by omega
       have sl2:q6<s.w.heap.size:=by omega
       clear z0 z1 y0 y1;clear c1;go_wp2_with fail;go_roundw;case rel=>exact⟨k+1,(m:Int),by omega,HBE.out,by go_num,rfl,ZC.out.trans (s.h.mono eG)⟩
       case measure=>exact Aa
      ·have e5:decide ((un:Int)≤(yn:Int))=false:=Aq A0
       have e6:decide (un≤yn)=false:=Aq hu;go_upto_region 7 with fail;refine Cg A6 A6 ?_;repeat (go_big_quiet_step (fail))
       refine Ba ?_;rintro _ ⟨s,rfl⟩;have hsx:=s.h.size;have a1:=s.cell q8 1 z4;have a2:=s.cell q6 1 y4;rw [z1] at a1;rw [y1] at a2;have sl1:q8<s.w.heap.size:=by omega
       have sl2:q6<s.w.heap.size:=by omega
       clear z0 z1 y0 y1;clear c1;go_wp2_with (go_at_call 74;refine (qy.out s.w s.h).mono ?_;rintro e W9 ⟨⟨r,rfl⟩,hb9⟩);all_goals have Wi:=A3 (ZC.out.trans ((s.h.trans (hb9.mono s.h.size)).mono eG))
       all_goals go_roundw
       case rel=>exact⟨k+1,(k:Int),by omega,.inr ⟨by omega,by omega⟩,by go_num,rfl,Wi.out⟩
       case measure=>exact Aa
       case rel=>exact⟨k+1,(m:Int),by omega,HBE.out,by go_num,rfl,Wi.out⟩
       case measure=>exact Aa
  ·obtain rfl:n=k:=by omega
   have dl:decide ((n:Int)<(n:Int))=false:=by simp
   clear hb;go_wp2_with fail;go_ret;exact⟨⟨best,rfl⟩,HWB.out⟩
section
open Go.RowKit Go.Maps Go.Sort Go.Shelf Go.MapKept Go.ChangeMaps
def wW:Go.Shelf.Ren:=⟨fun|7=>73|10=>99|n=>n,fun|23=>99|26=>3|3=>4|28=>113|0=>0|27=>112|33=>155|4=>4|n=>n,fun|n=>n⟩
theorem vz:Go.Proofs.SlLaysZI.n7 Tryz.prog wW:={
  mixed:=by kernel_rfl
  f7:=⟨Tryz.f73.name,by decide,Tryz.func73.trans (congrArg some A6)⟩
  f10:=⟨Tryz.f99.name,by decide,Tryz.func99.trans (congrArg some A6)⟩
  t0:=gH
  a0:=Tryz.isAgg0
  z0:=gz
  v0:=lN
  t4:=U7
  a4:=Tryz.isAgg4
  z4:=kf
  v4:=lz
  t23:=MN
  a23:=Tryz.isAgg99
  z23:=Tryz.sizeOf99
  v23:=Tryz.zeroValue99
  t26:=CS
  a26:=Wx
  z26:=Y1
  v26:=ZR
  t27:=Tryz.underlying112
  a27:=Tryz.isAgg112
  z27:=Tryz.sizeOf112
  v27:=Tryz.zeroValue112
  t28:=rO
  a28:=Tryz.isAgg113
  z28:=Tryz.sizeOf113
  v28:=qX
  t33:=Tryz.underlying155
  a33:=Tryz.isAgg155
  z33:=Tryz.sizeOf155
  v33:=Tryz.zeroValue155 }
def keysL_ren:Go.Shelf.Ren:=⟨fun|7=>41|10=>71|n=>n,fun|23=>107|26=>3|3=>38|28=>113|0=>0|27=>112|33=>155|4=>4|n=>n,fun|n=>n⟩
theorem keysL:Go.Proofs.SlLaysZI.n7 Tryz.prog keysL_ren:={
  mixed:=by kernel_rfl
  f7:=⟨Tryz.f41.name,by decide,Tryz.func41.trans (congrArg some A6)⟩
  f10:=⟨Tryz.f71.name,by decide,Tryz.func71.trans (congrArg some A6)⟩
  t0:=gH
  a0:=Tryz.isAgg0
  z0:=gz
  v0:=lN
  t4:=U7
  a4:=Tryz.isAgg4
  z4:=kf
  v4:=lz
  t23:=gL
  a23:=Tryz.isAgg107
  z23:=Tryz.sizeOf107
  v23:=Tryz.zeroValue107
  t26:=CS
  a26:=Wx
  z26:=Y1
  v26:=ZR
  t27:=Tryz.underlying112
  a27:=Tryz.isAgg112
  z27:=Tryz.sizeOf112
  v27:=Tryz.zeroValue112
  t28:=rO
  a28:=Tryz.isAgg113
  z28:=Tryz.sizeOf113
  v28:=qX
  t33:=Tryz.underlying155
  a33:=Tryz.isAgg155
  z33:=Tryz.sizeOf155
  v33:=Tryz.zeroValue155 }
def x9:Go.Shelf.Ren:=⟨fun|6=>40|8=>69|9=>70|11=>96|13=>98|12=>97|23=>125|24=>126|14=>116|15=>117|16=>118|17=>119|18=>120|19=>121|20=>122|21=>123|22=>124|25=>137|26=>138|27=>139|28=>140|29=>141|30=>142|31=>151|n=>n,fun|26=>3|28=>113|24=>38|0=>0|3=>3|37=>129|48=>70|50=>206|4=>4|40=>200|39=>199|45=>47|5=>5|9=>9|51=>213|55=>135|57=>218|58=>133|33=>155|n=>n,fun|n=>n⟩
theorem vL:Go.Proofs.SlLaysZI.n6 Tryz.prog x9:={
  mixed:=by kernel_rfl
  f6:=⟨Tryz.f40.name,by decide,Tryz.func40.trans (congrArg some A6)⟩
  f8:=⟨Tryz.f69.name,by decide,Tryz.func69.trans (congrArg some A6)⟩
  f11:=⟨Tryz.f96.name,by decide,Tryz.func96.trans (congrArg some A6)⟩
  t0:=gH
  a0:=Tryz.isAgg0
  z0:=gz
  v0:=lN
  t24:=Ey
  a24:=Tryz.isAgg38
  z24:=Tryz.sizeOf38
  v24:=om
  t26:=CS
  a26:=Wx
  z26:=Y1
  v26:=ZR
  t28:=rO
  a28:=Tryz.isAgg113
  z28:=Tryz.sizeOf113
  v28:=qX
  i26:=by kernel_rfl }
def amD:Go.Shelf.Ren:=⟨fun|5=>70|8=>98|7=>97|19=>125|20=>126|10=>116|11=>117|12=>118|13=>119|14=>120|15=>121|16=>122|17=>123|18=>124|30=>137|31=>138|32=>139|33=>140|34=>141|35=>142|40=>151|n=>n,fun|23=>38|25=>3|3=>3|32=>129|22=>38|0=>0|44=>70|46=>206|4=>4|36=>200|35=>199|41=>47|5=>5|9=>9|53=>213|57=>135|63=>218|64=>133|n=>n,fun|n=>n⟩
theorem pM:Go.Proofs.SlLaysM.n5 Tryz.prog amD:={
  mixed:=by kernel_rfl
  f5:=⟨Tryz.f70.name,by decide,Tryz.func70.trans (congrArg some A6)⟩
  f7:=⟨Tryz.f97.name,by decide,Tryz.func97.trans (congrArg some A6)⟩
  f8:=Tryz.func98.trans (congrArg some A6)
  f10:=⟨Tryz.f116.name,by decide,Tryz.func116.trans (congrArg some A6)⟩
  f11:=⟨Tryz.f117.name,by decide,Tryz.func117.trans (congrArg some A6)⟩
  f12:=⟨Tryz.f118.name,by decide,Tryz.func118.trans (congrArg some A6)⟩
  f13:=⟨Tryz.f119.name,by decide,Tryz.func119.trans (congrArg some A6)⟩
  f14:=⟨Tryz.f120.name,by decide,Tryz.func120.trans (congrArg some A6)⟩
  f15:=⟨Tryz.f121.name,by decide,Tryz.func121.trans (congrArg some A6)⟩
  f16:=⟨Tryz.f122.name,by decide,Tryz.func122.trans (congrArg some A6)⟩
  f17:=⟨Tryz.f123.name,by decide,Tryz.func123.trans (congrArg some A6)⟩
  f18:=⟨Tryz.f124.name,by decide,Tryz.func124.trans (congrArg some A6)⟩
  f19:=Tryz.func125.trans (congrArg some A6)
  f20:=Tryz.func126.trans (congrArg some A6)
  f30:=⟨Tryz.f137.name,by decide,Tryz.func137.trans (congrArg some A6)⟩
  f31:=Tryz.func138.trans (congrArg some A6)
  f32:=Tryz.func139.trans (congrArg some A6)
  f33:=⟨Tryz.f140.name,by decide,Tryz.func140.trans (congrArg some A6)⟩
  f34:=⟨Tryz.f141.name,by decide,Tryz.func141.trans (congrArg some A6)⟩
  f35:=⟨Tryz.f142.name,by decide,Tryz.func142.trans (congrArg some A6)⟩
  f40:=⟨Tryz.f151.name,by decide,Tryz.func151.trans (congrArg some A6)⟩
  t0:=gH
  a0:=Tryz.isAgg0
  z0:=gz
  v0:=lN
  t3:=CS
  a3:=Wx
  z3:=Y1
  v3:=ZR
  t4:=U7
  a4:=Tryz.isAgg4
  z4:=kf
  v4:=lz
  t5:=rQ
  a5:=Tryz.isAgg5
  z5:=Tryz.sizeOf5
  v5:=Tryz.zeroValue5
  t9:=Xm
  a9:=Tryz.isAgg9
  z9:=Tryz.sizeOf9
  v9:=Tryz.zeroValue9
  t22:=Ey
  a22:=Tryz.isAgg38
  z22:=Tryz.sizeOf38
  v22:=om
  t23:=Ey
  a23:=Tryz.isAgg38
  z23:=Tryz.sizeOf38
  v23:=om
  t25:=CS
  a25:=Wx
  z25:=Y1
  v25:=ZR
  t32:=Tryz.underlying129
  a32:=Tryz.isAgg129
  z32:=Tryz.sizeOf129
  v32:=Tryz.zeroValue129
  t35:=Tryz.underlying199
  a35:=Tryz.isAgg199
  z35:=Tryz.sizeOf199
  v35:=Tryz.zeroValue199
  t36:=Tryz.underlying200
  a36:=Tryz.isAgg200
  z36:=Tryz.sizeOf200
  v36:=Tryz.zeroValue200
  t41:=Tryz.underlying47
  a41:=Tryz.isAgg47
  z41:=Tryz.sizeOf47
  v41:=Tryz.zeroValue47
  t44:=uX
  a44:=Tryz.isAgg70
  z44:=Tryz.sizeOf70
  v44:=Tryz.zeroValue70
  t46:=Tryz.underlying206
  a46:=Tryz.isAgg206
  z46:=Tryz.sizeOf206
  v46:=Tryz.zeroValue206
  t53:=Tryz.underlying213
  a53:=Tryz.isAgg213
  z53:=Tryz.sizeOf213
  v53:=Tryz.zeroValue213
  t57:=Tryz.underlying135
  a57:=Tryz.isAgg135
  z57:=Tryz.sizeOf135
  v57:=Tryz.zeroValue135
  t63:=Tryz.underlying218
  a63:=Tryz.isAgg218
  z63:=Tryz.sizeOf218
  v63:=Tryz.zeroValue218
  t64:=Tryz.underlying133
  a64:=Tryz.isAgg133
  z64:=Tryz.sizeOf133
  v64:=Tryz.zeroValue133 }
theorem qH (m:Nat):AnyZI.SortsIn Tryz.prog x9 Fence.wide m:=
  ⟨fun blk off cap ss W hH hblk hsz=>ZO.2 (AnyM.slices_Sort_int pM blk off cap ss W hH hblk hsz),
   fun p cap W=>ZO.2 (AnyM.slices_Sort_int_none pM p cap W)⟩
theorem anJ (mb:Option Nat) (W:World):Calls Tryz.prog 73 #[.map mb] W fun e w'=>e=.returned (.func (.func 99) #[] #[.pointer (some ⟨W.heap.size,0,none⟩)])∧w'=W.alloc (.cells #[.map mb] 99):=
  (ZO (n:=5)).1 (AnyZI.keys_in vz Fence.wide 5 trivial rfl mb W)
theorem zg (mb:Option Nat) (W:World):Calls Tryz.prog 41 #[.map mb] W fun e w'=>e=.returned (.func (.func 71) #[] #[.pointer (some ⟨W.heap.size,0,none⟩)])∧w'=W.alloc (.cells #[.map mb] 107):=
  (ZO (n:=5)).1 (AnyZI.keys_in keysL Fence.wide 5 trivial rfl mb W)
def VH:Value→Int
  | .int _ a=>a
  | _=>0
def XO:Value→Option (DataW Unit×List MemPlace):=fun _=>some (.nil,[])
theorem vq {n:Nat} {l:List Int} (h:l.Nodup) (hl:∀x∈l,0≤x∧x<(n:Int)):l.length≤n:=by
  have h1:(l.map Int.toNat).Nodup:=by
    unfold List.Nodup;rw [jk];refine h.imp_of_mem fun {a b} ha hb hne e=>hne ?_;have:=hl a ha;have:=hl b hb;omega
  have h2:=OS (n:=n) h1 fun x hx=>by
    obtain⟨y,hy,rfl⟩:=Bx.1 hx;have:=hl y hy;omega
  simpa using h2
theorem Im.own {w:World} {b:Nat} {f:Int→Option Value} (h:Im w b f) (N:Nat) (hN:∀k v,f k=some v→0≤k∧k<(N:Int)) (Zr:N≤1000000) :
    ∃(ks:List Int) (D0:DataW Unit),ks.Nodup∧(∀x,x∈ks↔f x≠none)∧w.ownsMap Tryz.prog 3 XO b N D0∧(intKeys D0).Perm ks∧Maps.size D0=ks.length∧ks.length≤N:=by
  obtain⟨es,clock,hb,q⟩:=h;have hst:=(stamped_iff es clock).1 q.stamped;have hrd:∀x∈es.toList,∃k,O2 k∧x.key=kv k∧f k=some x.val∧Go.WideElems.rg Tryz.prog 3 XO x=(.int .i64 k,.nil):=fun x hx=>by
    obtain⟨k,h1,h2,h3⟩:=q.vals x hx;refine⟨k,h1,h2,h3,?_⟩;have:=SN (P:=Tryz.prog) (kt:=3) CS h1;simp [Go.WideElems.rg,Go.WideElems.rd,h2,this,XO]
  have hnd:(es.toList.map fun x=>VH x.key).Nodup:=by
    unfold List.Nodup;rw [jk];refine hst.2.2.imp_of_mem fun {a c} ha hc hne e=>hne ?_;obtain⟨k,_,h2,_⟩:=hrd a ha;obtain⟨k',_,h2',_⟩:=hrd c hc;rw [h2,h2'] at e ⊢;simp only [VH,kv] at e;rw [e]
  have hmem:∀x,x∈es.toList.map (fun x=>VH x.key)↔f x≠none:=fun x=>by
    rw [Bx];constructor
    · rintro⟨y,hy,rfl⟩
      obtain⟨k,_,h2,h3,_⟩:=hrd y hy;rw [h2];simp [VH,kv,h3]
    · intro hx
      obtain⟨v,hv⟩:=Option.ne_none_iff_exists'.1 hx;obtain⟨y,hy,e⟩:=q.rest x v hv;exact⟨y,hy,by rw [e];rfl⟩
  have hlen:(es.toList.map fun x=>VH x.key).length≤N:=vq hnd fun x hx=>by
    obtain⟨v,hv⟩:=Option.ne_none_iff_exists'.1 ((hmem x).1 hx);exact hN x v hv
  have hsz:es.size≤N:=by simpa using hlen
  have hperm:=Go.WideShapes.sorted_perm (es.toList.map (Go.WideElems.rg Tryz.prog 3 XO));refine⟨_,_,hnd,hmem,⟨es,clock,hb,⟨by unfold maxLen;omega,q.stamped,fun x hx=>?_⟩,hsz,rfl⟩,?_,?_,hlen⟩
  · obtain⟨k,h1,h2,_⟩:=hrd x hx
    have:=SN (P:=Tryz.prog) (kt:=3) CS h1;exact⟨_,by simp [Go.WideElems.rd,h2,this,XO];rfl⟩
  · have:=hperm.map fun p=>Go.intOf p.1
    rw [List.map_map] at this;refine List.Perm.trans this (List.Perm.of_eq (Q4 fun x hx=>?_));obtain⟨k,_,h2,_,h4⟩:=hrd x hx;simp only [Function.comp,h4,h2,VH,kv];rfl
  · show List.length _=_
    rw [hperm.length_eq];simp
theorem jx {w:World} {base base':Nat} {e:TypeId} {size:Nat} {v:Value} {n:Nat} {xs:List Value} (h:w.ownsRow base e size v n xs) (hb:base'≤base):w.ownsRow base' e size v n xs:=by
  refine⟨h.1,?_⟩;rcases h.2 with h2|⟨g,cap,cur,h2,h3,h4⟩
  · exact .inl h2
  · exact .inr ⟨g,cap,cur,h2,EM hb h3,h4⟩
structure dI (f:Int→Option Value) (l:List Int):Prop where
  Rf:l.Pairwise (· < ·)
  mem:∀x,x∈l↔f x≠none
theorem wI {ks ss:List Int} {f:Int→Option Value} (hn:ks.Nodup) (hm:∀x,x∈ks↔f x≠none) (hp:ss.Perm ks):dI f (ss.mergeSort fun x y=>decide (x≤y)):=by
  have hps:=(List.mergeSort_perm ss fun x y=>decide (x≤y)).trans hp;refine⟨?_,fun x=>(hps.mem_iff).trans (hm x)⟩;have h1:(ss.mergeSort fun x y=>decide (x≤y)).Pairwise fun x y=>decide (x≤y)=true:=List.pairwise_mergeSort (fun a b c h1 h2=>by simp only [DK] at *;omega) (fun a b=>by simp only [aS,DK];omega) ss;have h2:(ss.mergeSort fun x y=>decide (x≤y)).Nodup:=hps.nodup_iff.2 hn;refine (h1.and h2).imp fun {a b} ⟨h3,h4⟩=>?_;have:=GQ h3;omega
theorem yF (b q N:Nat) (f:Int→Option Value) (w:World) (hM:Im w b f) (hN:∀k v,f k=some v→0≤k∧k<(N:Int)) (Zr:N≤1000000) (hq:q<w.heap.size) (hc:w.cell? ⟨q,0,none⟩=some (.map (some b))) :
    Calls Tryz.prog 40 #[.func (.func 99) #[] #[.pointer (some ⟨q,0,none⟩)]] w fun e w'=>∃v l,e=.returned v∧w'.ownsRow w.heap.size 3 1 v l.length (Av l)∧dI f l∧Below w.heap.size w w':=by
  obtain⟨ks,D0,h1,h2,hown,h3,h4,h5⟩:=hM.own N hN Zr;have hseq:SeqGives Fence.wide 2 Tryz.prog 99 #[.pointer (some ⟨q,0,none⟩)] encZ (fun ss=>ss.Perm (intKeys D0)) (Maps.size D0) w:=
    AnyZI.keys_gives (ρ:=wW) { vz with } Fence.wide _ trivial rfl A0 q b N D0 _ hq hc hown
  have cS:=AnyZI.sorted_in vL Fence.wide 5 trivial trivial trivial trivial rfl A0 (qH _) (enters_of Tryz.func70 A6 rfl) 99 #[.pointer (some ⟨q,0,none⟩)] trivial (enters_of Tryz.func99 A6 rfl) _ _ (by rw [h4];unfold maxLen;omega) (by rw [h4];omega) w hseq;refine ((ZO (n:=5)).1 cS).mono ?_;rintro e w' ⟨v,ss,rfl,hS,hrow,hnil,hb⟩;refine⟨v,_,rfl,?_,wI h1 h2 (List.Perm.trans hS h3),hb⟩;have e1:(ss.mergeSort fun x y=>decide (x≤y)).length=ss.length:=List.length_mergeSort ..;rw [←e1] at hrow;exact hrow
theorem ajF (b q N:Nat) (f:Int→Option Value) (w:World) (hM:Im w b f) (hN:∀k v,f k=some v→0≤k∧k<(N:Int)) (Zr:N≤1000000) (hq:q<w.heap.size) (hc:w.cell? ⟨q,0,none⟩=some (.map (some b))) :
    Calls Tryz.prog 40 #[.func (.func 71) #[] #[.pointer (some ⟨q,0,none⟩)]] w fun e w'=>∃v l,e=.returned v∧w'.ownsRow w.heap.size 3 1 v l.length (Av l)∧dI f l∧Below w.heap.size w w':=by
  obtain⟨ks,D0,h1,h2,hown,h3,h4,h5⟩:=hM.own N hN Zr;have hseq:SeqGives Fence.wide 2 Tryz.prog 71 #[.pointer (some ⟨q,0,none⟩)] encZ (fun ss=>ss.Perm (intKeys D0)) (Maps.size D0) w:=
    AnyZI.keys_gives (ρ:=keysL_ren) { keysL with } Fence.wide _ trivial rfl A0 q b N D0 _ hq hc hown
  have cS:=AnyZI.sorted_in vL Fence.wide 5 trivial trivial trivial trivial rfl A0 (qH _) (enters_of Tryz.func70 A6 rfl) 71 #[.pointer (some ⟨q,0,none⟩)] trivial (enters_of Tryz.func71 A6 rfl) _ _ (by rw [h4];unfold maxLen;omega) (by rw [h4];omega) w hseq;refine ((ZO (n:=5)).1 cS).mono ?_;rintro e w' ⟨v,ss,rfl,hS,hrow,hnil,hb⟩;refine⟨v,_,rfl,?_,wI h1 h2 (List.Perm.trans hS h3),hb⟩;have e1:(ss.mergeSort fun x y=>decide (x≤y)).length=ss.length:=List.length_mergeSort ..;rw [←e1] at hrow;exact hrow
end
section
open Classical in
noncomputable def Fs (S:Nat→Prop):Int→Option Value:=fun k=>if 0≤k∧S k.toNat then some (.bool true) else none
theorem anA {S:Nat→Prop} {b:Nat} (h:S b):Fs S (b:Int)=some (.bool true):=by unfold Fs;rw [AE ⟨by omega,by rw [Dk];exact h⟩]
theorem rA {S:Nat→Prop} {b:Nat} (h:¬S b):Fs S (b:Int)=none:=by unfold Fs;rw [A9];rintro⟨_,h2⟩;rw [Dk] at h2;exact h h2
theorem nH (S:Nat→Prop) (b:Nat):EK (Fs S) (b:Int) (.bool true)=Fs (fun x=>S x∨x=b):=by
 funext k;unfold EK Fs;by_cases h:k=(b:Int)
 ·subst h
  rw [AE rfl,AE ⟨by omega,.inr (Dk b)⟩]
 ·rw [A9 h]
  by_cases h0:0≤k
  ·have:k.toNat≠b:=by omega
   by_cases hs:S k.toNat<;>simp [h0,this,hs]
  ·simp [h0]
theorem ao2 {S:Nat→Prop} {n:Nat} (h:∀x,S x→x<n):∀k v,Fs S k=some v→0≤k∧k<(n:Int):=fun k v hk=>by
 unfold Fs at hk;split at hk
 ·rename_i hc
  have:=h _ hc.2;omega
 ·cases hk
theorem zo {S:Nat→Prop} {x:Int}:Fs S x≠none↔0≤x∧S x.toNat:=by
 unfold Fs;split
 ·rename_i h;simp [h]
 ·rename_i h;simp only [ne_eq,not_true_eq_false,false_iff];exact h
open Classical in
noncomputable def Ld (S:Nat→Prop) (l:List Nat):Nat:=l.countP fun x=>decide (¬S x)
theorem oN {S S':Nat→Prop} (h:∀x,S x→S' x) (l:List Nat):Ld S' l≤Ld S l:=by
 unfold Ld;refine List.countP_mono_left fun x _ hx=>?_;simp only [DK] at hx ⊢;exact fun h1=>hx (h x h1)
noncomputable def Vg (n:Nat) (S:Nat→Prop):Nat:=Ld S (List.range n)
theorem aqW {n:Nat} {S S':Nat→Prop} (h:∀x,S x→S' x):Vg n S'≤Vg n S:=oN h _
theorem oY (S:Nat→Prop) (l m:List Nat):Ld S (l++m)=Ld S l+Ld S m:=by unfold Ld;exact gh
theorem aqq {S:Nat→Prop} {b:Nat} (h:S b) (l:List Nat):Ld S (b :: l)=Ld S l:=by unfold Ld;rw [TG,A9 (by simp [h])];rfl
theorem aoL {S:Nat→Prop} {b:Nat} (h:¬S b) (l:List Nat):Ld S (b :: l)=Ld S l+1:=by unfold Ld;rw [TG,AE (by simp [h])]
theorem uj {n b:Nat} {S:Nat→Prop} (hb:b<n) (h:¬S b):Vg n (fun x=>S x∨x=b)<Vg n S:=by
 unfold Vg;have e1:List.range n=List.range b++b :: (List.range' (b+1) (n - b - 1)):=by
  rw [List.range_eq_range',List.range_eq_range',show n=b+(1+(n - b - 1)) by omega,← List.range'_append_1,← List.range'_append_1];simp
 have le:=oN (S:=S) (S':=fun x=>S x∨x=b) fun x hx=>.inl hx;rw [e1,oY,oY,aoL h,aqq (S:=fun x=>S x∨x=b) (.inr rfl)];have h1:=le (List.range b);have h2:=le (List.range' (b+1) (n - b - 1));omega
structure N8 (w wr:World) (mq pq gq fq mb:Nat) (pv bv lv:Value) (S:Nat→Prop):Prop where
 A7:Below w.heap.size w wr
 dy:wr.heap[mq]?=some (.cells #[.map (some mb)] 99 (0,0))
 Lj:wr.heap[pq]?=some (.cells #[pv] 38 (0,0))
 Qh:wr.heap[gq]?=some (.cells #[bv,lv] 31 (0,0))
 QE:wr.heap[fq]?=some (.cells #[.func (.func 72) #[] #[.pointer (some ⟨mq,0,none⟩),.pointer (some ⟨pq,0,none⟩),.pointer (some ⟨gq,0,none⟩),.pointer (some ⟨fq,0,none⟩)]] 152 (0,0))
 im:Im wr mb (Fs S)
 hi:w.heap.size≤mb
section
variable {w wr:World} {mq pq gq fq mb:Nat} {pv bv lv:Value} {S:Nat→Prop}
theorem N8.put (h:N8 w wr mq pq gq fq mb pv bv lv S) (b:Nat) {w':World} (hm:Im w' mb (EK (Fs S) (b:Int) (.bool true))) (ho:w'.os=wr.os) (ht:w'.tape=wr.tape) (hp:w'.output=wr.output) (hs:w'.heap.size=wr.heap.size) (hk:∀i,i≠mb→w'.heap[i]?=wr.heap[i]?):N8 w w' mq pq gq fq mb pv bv lv (fun x=>S x∨x=b):=by
 have ne:∀(q:Nat) (o:Array Value) (t:TypeId),wr.heap[q]?=some (.cells o t (0,0))→q≠mb:=fun q o t hq e=>by
  obtain⟨es,cl,h1,_⟩:=h.im;rw [e,h1] at hq;cases hq
 refine⟨h.A7.trans ⟨ho,ht,hp,by omega,fun k hk'=>hk k (by have:=h.hi;omega)⟩,(hk _ (ne _ _ _ h.dy)).trans h.dy,(hk _ (ne _ _ _ h.Lj)).trans h.Lj,(hk _ (ne _ _ _ h.Qh)).trans h.Qh,(hk _ (ne _ _ _ h.QE)).trans h.QE,?_,h.hi⟩;rw [←nH];exact hm
theorem N8.cells (h:N8 w wr mq pq gq fq mb pv bv lv S):wr.cell? ⟨mq,0,none⟩=some (.map (some mb))∧wr.cell? ⟨pq,0,none⟩=some pv∧wr.cell? ⟨gq,1,none⟩=some lv∧wr.cell? ⟨fq,0,none⟩=some (.func (.func 72) #[] #[.pointer (some ⟨mq,0,none⟩),.pointer (some ⟨pq,0,none⟩),.pointer (some ⟨gq,0,none⟩),.pointer (some ⟨fq,0,none⟩)])∧mq<wr.heap.size∧pq<wr.heap.size∧gq<wr.heap.size∧fq<wr.heap.size:=
 ⟨by simp [World.cell?,h.dy],by simp [World.cell?,h.Lj],by simp [World.cell?,h.Qh],by simp [World.cell?,h.QE],(Be.1 h.dy).1,(Be.1 h.Lj).1,(Be.1 h.Qh).1,(Be.1 h.QE).1⟩
end
structure jm (w:World) (pk po n:Nat) (R:Nat→Prop):Prop where
 lt:pk<w.heap.size
 at_:∀k,k<n→∃x:Int,w.cell? ⟨pk,po+k,none⟩=some (.int .i64 x)∧(0≤x↔R k)
theorem sJ (w:World):(zeroValue 4).run Tryz.prog w=.ok (.bool false) w:=by kernel_rfl
theorem adP {G:List AV} {P:List (List Int)} {R:Nat→Prop} (HV:Ea G P) (hn5:G.length≤5000) (w:World) (mq pq gq fq mb pk po B7:Nat) (bv lv:Value) (HP:CO w lv P) (Pa:jm w pk po G.length R):∀(f b:Nat) (S:Nat→Prop) (wr:World),N8 w wr mq pq gq fq mb (.slice (some ⟨pk,po,none⟩) G.length B7) bv lv S→Vg G.length S≤f→b<G.length→
  Calls Tryz.prog 72 #[.int .i64 (b:Int),.pointer (some ⟨mq,0,none⟩),.pointer (some ⟨pq,0,none⟩),.pointer (some ⟨gq,0,none⟩),.pointer (some ⟨fq,0,none⟩)] wr fun e w'=>e=.returned (.tuple #[])∧∃S':Nat→Prop,N8 w w' mq pq gq fq mb (.slice (some ⟨pk,po,none⟩) G.length B7) bv lv S'∧Om (Dj P) R b S S':=by
 have he:∀(args:Array Value) (w:World),(callFunc 72 args).run Tryz.prog w=.ok (.enter 72 args) w:=fun _ _=>by kernel_rfl
 obtain⟨PA,SR,rfl,hp1,hp2⟩:=HP.slice;have⟨ET,Nb,HPP,Pa⟩:=Bz HV.len HV HP Pa;clear HP HV hp1 hp2;have seen:∀(b:Nat) (S:Nat→Prop) (wr:World),N8 w wr mq pq gq fq mb (.slice (some ⟨pk,po,none⟩) G.length B7) bv (.slice PA P.length SR) S→S b→b<G.length→
   Calls Tryz.prog 72 #[.int .i64 (b:Int),.pointer (some ⟨mq,0,none⟩),.pointer (some ⟨pq,0,none⟩),.pointer (some ⟨gq,0,none⟩),.pointer (some ⟨fq,0,none⟩)] wr fun e w'=>e=.returned (.tuple #[])∧∃S':Nat→Prop,N8 w w' mq pq gq fq mb (.slice (some ⟨pk,po,none⟩) G.length B7) bv (.slice PA P.length SR) S'∧Om (Dj P) R b S S':=by
  intro b S wr hB hS Cc;obtain⟨t1,t2,t3,t4,t5,t6,t7,t8⟩:=hB.cells;have WG:=A3 hB;have hl:=hB.im.Sm (P:=Tryz.prog) (kt:=3) (t:=99) (e:=4) CS MN (anA hS) false;simp only [kv,MZ,N0] at hl;have HR:=A3 (show Om (Dj P) R b S S from .skip (.inl hS));clear hB hS;go_enter Tryz.func72,Tryz.ntmps72;go_wp2_with fail;refine Al (au rfl _ _ _) rfl ⟨rfl,S,WG.out,HR.out⟩
 have SEEN:=A3 seen;clear seen;intro f;induction f with
 | zero=>
  intro b S wr hB Oi Cc;refine SEEN.out b S wr hB (gQ fun hno=>?_) Cc;have:=uj Cc hno;omega
 | succ f ih=>
  intro b S wr hB Oi Cc;obtain⟨t1,t2,t3,t4,t5,t6,t7,t8⟩:=hB.cells;have hsz:=hB.A7.size;have i1:(b:Int)<(G.length:Int):=by omega
  obtain⟨x,hx,hxr⟩:=Pa.out.at_ b Cc;have spk:=Pa.out.lt;have x1:wr.cell? ⟨pk,po+b,none⟩=some (.int .i64 x):=(hB.A7.cell (p:=⟨pk,po+b,none⟩) spk).trans hx;have⟨WG,IH,N2⟩:=B8 hB ih Oi;clear ih Oi hx;by_cases hS:S b
  ·exact SEEN.out b S wr hB hS Cc
  ·have hl:=hB.im.Wb (P:=Tryz.prog) (kt:=3) (t:=99) (e:=4) CS MN (sJ wr) (J1 (k:=(b:Int)) A0 A0) (rA hS) false
   simp only [kv,MZ,N0] at hl;by_cases hx0:x<0
   ·have dx:decide (x<0)=true:=AR hx0
    have HR:=A3 (show Om (Dj P) R b S S from .skip (.inr fun hr=>by have:=hxr.2 hr;omega));clear hB hS;go_enter Tryz.func72,Tryz.ntmps72;go_wp2_with fail;refine Al (au rfl _ _ _) rfl ⟨rfl,S,WG.out,HR.out⟩
   ·have dx:decide (x<0)=false:=Aq hx0
    have PW:=A3 (show R b from hxr.1 A0);obtain⟨W2,hput,hm2,o1,o2,o3,o4,o5⟩:=hB.im.put (P:=Tryz.prog) (kt:=3) (t:=99) (e:=4) CS MN (k:=(b:Int)) (J1 A0 A0) (.bool true);simp only [kv] at hput;have hB2:=hB.put b hm2 o1 o2 o3 o4 o5;have Ga:=A3 hB2;obtain⟨-,-,u3,-,-,-,u7,-⟩:=hB2.cells;obtain⟨pl,hpl⟩:∃l,P.getD b []=l:=⟨_,rfl⟩;have ibP:(b:Int)<(P.length:Int):=by rw [ET.out];omega
    obtain⟨qk,qo,ZK,sqk,lv,pc1,hlv⟩:∃qk qo,PA=some ⟨qk,qo,none⟩∧qk<w.heap.size∧∃lv,w.cell? ⟨qk,qo+b,none⟩=some lv∧Ints w lv pl:=by
     obtain⟨_,_,e1,_,_,e4⟩:=HPP.out;cases e1;have YU:b<P.length:=by omega
     obtain⟨pk,po,e5,e6,e7⟩:=e4 A0;obtain⟨lv,e8,e9⟩:=e7 b _ (Aj YU);refine⟨pk,po,e5,e6,lv,e8,?_⟩;rw [←hpl,List.getD,Aj YU];exact e9
    subst ZK;obtain⟨LA,lc2,rfl,hl1,hl2⟩:=hlv.slice;have pc2:W2.cell? ⟨qk,qo+b,none⟩=some (.slice LA pl.length lc2):=(hB2.A7.cell (p:=⟨qk,qo+b,none⟩) sqk).trans pc1;have sqw:qk<W2.heap.size:=by have:=hB2.A7.size;omega
    have⟨MS,Xk,UK,HNS⟩:=Bz hlv (fun p=>qF (p:=p) Nb.out Cc) hpl hS;clear hB hB2 hS hlv hpl pc1 hm2 o1 o2 o3 o4 o5 hxr hx0;go_enter Tryz.func72,Tryz.ntmps72;go_upto_region 3 with fail;clear pc2 sqw u3 u7 t1 t2 t3 t4 t5 t6 t7 t8 hl hput x1;go_loopw [26] (fun a26 wr=>∃(j:Nat) (S':Nat→Prop),j≤pl.length∧a26=.int .i64 (j:Int)∧N8 w wr mq pq gq fq mb (.slice (some ⟨pk,po,none⟩) G.length B7) bv (.slice (some ⟨qk,qo,none⟩) P.length SR) S'∧PG (Dj P) R ((Dj P b).take j) (fun x=>S x∨x=b) S') (fun a26 _=>pl.length - (intOf a26).toNat);case atStart=>exact⟨0,_,Ck _,rfl,Ga.out,.nil⟩
    case round=>
     clear Ga;obtain⟨j,S',hj,rfl,hB,Jr⟩:=hrel;obtain⟨t1,t2,t3,t4,t5,t6,t7,t8⟩:=hB.cells;have⟨Tx,HVS⟩:=AL hB Jr;by_cases hlt:j<pl.length
     ·have dl:decide ((j:Int)<(pl.length:Int))=true:=AR A0
      obtain⟨pv0,lb,lo,hs,Sj,Y9,lc⟩:=MS.out.at_ hB.A7 hlt;subst Sj;have hpv:=(Xk.out 0).2 pv0 (by rw [UK.out];exact Bf hs);obtain⟨p,rfl⟩:∃p:Nat,pv0=(p:Int):=⟨pv0.toNat,by omega⟩;have Gz:p<G.length:=by omega
      have CU:=A3 (show (Dj P b).take (j+1)=(Dj P b).take j++[p] by
       have:(Dj P b)[j]?=some p:=by unfold Dj;rw [UK.out,Cr,hs];rfl
       rw [G4,this];rfl)
      have TL:=A3 (IH.out p S' wr hB (by
       have h1:=uj Cc HNS.out;have h2:=aqW (n:=G.length) Jr.grow;have h3:=N2.out
       omega) Gz)
      clear hB Jr hs hpv;go_wp2_with (go_at_call 72;refine TL.out.mono ?_;rintro e W7 ⟨rfl,S7,hB7,hV7⟩);go_roundw;case rel=>exact⟨j+1,S7,by omega,by go_num,hB7,by rw [CU.out];exact HVS.out.snoc hV7⟩
      case measure=>exact Aa
     ·obtain rfl:j=pl.length:=by omega
      have dl:decide ((pl.length:Int)<(pl.length:Int))=false:=by simp
      have HR:=A3 (show Om (Dj P) R b S S' from .of PW.out HNS.out (by
       have e:(Dj P b).take pl.length=Dj P b:=Gq (by unfold Dj;rw [UK.out,ED];exact AH _);rw [e] at Jr
       exact Jr))
      clear hB Jr;go_wp2_with fail;refine bodyPost_end (au rfl _ _ _) rfl ⟨rfl,S',Tx.out,HR.out⟩
end
structure X6 (pv:Nat→List Nat) (R:Nat→Prop) (h:Nat) (Eu:List Nat) (l:List Int):Prop where
 Rf:l.Pairwise (· < ·)
 mem:∀x,x∈l↔0≤x∧S8 pv R h Eu x.toNat
theorem apj {G:List AV} {P:List (List Int)} {R:Nat→Prop} (HV:Ea G P) (hn5:G.length≤5000) (hR:∀x,R x→x<G.length) (w:World) (pk po B7 h:Nat) (bv lv qO:Value) (Eu:List Nat) (HP:CO w lv P) (Pa:jm w pk po G.length R) (HL:Ints w qO (Bg Eu)) (hh:h<G.length) (hRh:R h) (pE:∀l∈Eu,l<G.length) :
  Calls Tryz.prog 42 #[.agg #[bv,lv],.int .i64 (h:Int),qO,.slice (some ⟨pk,po,none⟩) G.length B7] w fun e w'=>∃v l,e=.returned v∧w'.ownsRow w.heap.size 3 1 v l.length (Av l)∧X6 (Dj P) R h Eu l∧Below w.heap.size w w':=by
 have mk:=fun W:World=>(show (Instr.makeMap 99 none).run Tryz.prog W=.ok (.map (some W.heap.size)) (W.alloc (.map #[] 0)) from rfl);have he:∀(args:Array Value) (w:World),(callFunc 72 args).run Tryz.prog w=.ok (.enter 72 args) w:=fun _ _=>by kernel_rfl
 obtain⟨LA,SR,rfl,hl1,hl2⟩:=HL.slice;obtain⟨PA,Lv,rfl,-,-⟩:=HP.slice;obtain⟨m,hm⟩:=AA ((Bg Eu).length);rw [hm] at hl1 ⊢;have HM:=A3 hm;obtain⟨pn,Gz⟩:∃m,P.length=m:=⟨_,rfl⟩;rw [Gz];have⟨Nb,HPP,am3,Ik,HLT⟩:=Fi HV (show CO w (.slice PA pn Lv) P by rw [←Gz];exact HP) Pa HL pE;obtain⟨gq,PX⟩:∃q,w.heap.size=q:=⟨_,rfl⟩;obtain⟨pq,hpq⟩:∃q,gq+1=q:=⟨_,rfl⟩;obtain⟨mb,hmb⟩:∃q,pq+1=q:=⟨_,rfl⟩;obtain⟨W1,hW1⟩:∃V,w.alloc (.cells #[bv,.slice PA pn Lv] 31)=V:=⟨_,rfl⟩;obtain⟨W2,hW2⟩:∃V,W1.alloc (.cells #[.slice (some ⟨pk,po,none⟩) G.length B7] 38)=V:=⟨_,rfl⟩;have s1:W1.heap.size=w.heap.size+1:=by rw [←hW1];simp
 have s2:W2.heap.size=w.heap.size+1+1:=by rw [←hW2,El,s1]
 obtain⟨W3,hput,hm3,o1,o2,o3,o4,o5⟩:=(Im.made W2).put (P:=Tryz.prog) (kt:=3) (t:=99) (e:=4) CS MN (k:=(h:Int)) (J1 A0 A0) (.bool true);have hb2:Below w.heap.size w W2:=hW2▸(hW1▸(AP _ _).alloc (AH _) _:Below w.heap.size w W1).alloc A0 _;have hb3:Below w.heap.size w W3:=(hb2.alloc A0 (.map #[] 0)).trans ⟨o1,o2,o3,by rw [o4];exact AH _,fun k hk=>o5 k A0⟩;have es2:W2.heap.size=mb:=by rw [s2,PX,hpq,hmb]
 have e3:W3.heap.size=mb+1:=by rw [o4,El,es2]
 have k1:W3.heap[gq]?=some (.cells #[bv,.slice PA pn Lv] 31 (0,0)):=by
  rw [o5 gq A0,Bb _ _ A0,← hW2,Bb _ _ A0,← hW1,← PX];exact Ai _ _
 have k2:W3.heap[pq]?=some (.cells #[.slice (some ⟨pk,po,none⟩) G.length B7] 38 (0,0)):=by
  rw [o5 pq A0,Bb _ _ A0,← hW2,← hpq,← PX,← s1];exact Ai _ _
 have vB:Im W3 mb (Fs (fun x=>x=h)):=by
  rw [←es2];have e:EK (fun _=>none) (h:Int) (.bool true)=Fs (fun x=>x=h):=by
   have:=nH (fun _=>False) h;rw [show Fs (fun _=>False)=fun _=>none by funext k;simp [Fs]] at this;rw [this];congr 1;funext x;simp
  rw [←e];exact hm3
 simp only [kv,es2] at hput;have⟨K1,K2,M3,B3⟩:=Bz k1 k2 vB hb3;clear es2 HV HP Pa HL pE hm Gz hm3 vB o1 o2 o3 o4 o5 k1 k2 hb2 hb3;go_enter Tryz.func42,Tryz.ntmps42;go_upto_region 2 with fail;obtain⟨mq,Ro⟩:∃q,mb+1=q:=⟨_,rfl⟩;obtain⟨V4,FH⟩:∃V,W3.alloc (.cells #[.map (some mb)] 99)=V:=⟨_,rfl⟩;rw [FH,Ro];obtain⟨fq,Uf⟩:∃q,V4.heap.size=q:=⟨_,rfl⟩;obtain⟨V5,Gv⟩:∃V,V4.alloc (.cells #[.func (.func 72) #[] #[.pointer (some ⟨mq,0,none⟩),.pointer (some ⟨pq,0,none⟩),.pointer (some ⟨gq,0,none⟩),.pointer (some ⟨fq,0,none⟩)]] 152)=V:=⟨_,rfl⟩;have HMQ:=A3 Ro;clear hput Ro;go_upto_region 4 with fail;have Ro:=HMQ.out;have s4:V4.heap.size=W3.heap.size+1:=by rw [←FH];simp
 have keep:∀(q:Nat) (x:Option Obj),q<W3.heap.size→W3.heap[q]?=x→V5.heap[q]?=x:=fun q x hq hx=>by
  rw [←Gv,Bb _ _ A0,← FH,Bb _ _ hq];exact hx
 have hB0:N8 w V5 mq pq gq fq mb (.slice (some ⟨pk,po,none⟩) G.length B7) bv (.slice PA pn Lv) (fun x=>x=h):=by
  refine⟨?_,?_,keep _ _ A0 K2.out,keep _ _ A0 K1.out,?_,?_,by omega⟩
  ·rw [←Gv,← FH]
   exact ((B3.out.alloc B3.out.size _).alloc (by have:=B3.out.size;simp;omega) _)
  ·rw [←Gv,Bb _ _ A0,← FH,show mq=W3.heap.size by omega];exact Ai _ _
  ·rw [←Gv,← Uf];exact Ai _ _
  ·exact M3.out.keep (keep _ _ A0 rfl)
 have HB0:=A3 hB0;clear keep s4 Gv Uf FH hB0 K1 K2 M3 B3 e3 s1 s2 hW1 hW2 PX hpq hmb mk Ro HMQ;go_upto_region 5 with fail;go_loopw [19] (fun a19 wr=>∃(j:Nat) (S:Nat→Prop),j≤m∧a19=.int .i64 (j:Int)∧N8 w wr mq pq gq fq mb (.slice (some ⟨pk,po,none⟩) G.length B7) bv (.slice PA pn Lv) S∧PG (Dj P) R (Eu.take j) (fun x=>x=h) S) (fun a19 _=>m - (intOf a19).toNat);case atStart=>exact⟨0,_,Ck _,rfl,HB0.out,.nil⟩
 case round=>
  clear HB0;obtain⟨j,S,hj,rfl,hB,Jr⟩:=hrel;obtain⟨t1,t2,t3,t4,t5,t6,t7,t8⟩:=hB.cells;have HVS:=A3 Jr;by_cases hlt:j<m
  ·have dl:decide ((j:Int)<(m:Int))=true:=AR A0
   have Hs:Eu.length=m:=by have:=HM.out;simpa [Bg] using this
   obtain⟨l,hl⟩:∃l,Eu[j]?=some l:=⟨_,Aj A0⟩;obtain⟨pv0,lb,lo,hs,Sj,Y9,lc⟩:=(HM.out▸Ik.out:Ints w (.slice LA (Bg Eu).length SR) (Bg Eu)).at_ hB.A7 (j:=j) VG;subst Sj;obtain rfl:pv0=(l:Int):=by simp [Bg,hl] at hs;exact hs.symm
   have⟨TL,CU⟩:=AL (adP Nb.out hn5 w mq pq gq fq mb pk po B7 bv (.slice PA pn Lv) HPP.out am3.out _ l S wr hB (AH _) (HLT.out l (Bf hl))) (show Eu.take (j+1)=Eu.take j++[l] by rw [G4,hl];rfl);clear hB Jr hs hl Hs;go_wp2_with (go_at_call 72;refine TL.out.mono ?_;rintro e W7 ⟨rfl,S7,hB7,hV7⟩);go_roundw;case rel=>exact⟨j+1,S7,by omega,by go_num,hB7,by rw [CU.out];exact HVS.out.snoc hV7⟩
   case measure=>exact Aa
  ·obtain rfl:m=j:=by omega
   have dl:decide ((m:Int)<(m:Int))=false:=by simp
   have hall:Eu.take m=Eu:=Gq (by have:=HM.out;simp [Bg] at this;omega);rw [hall] at Jr;have P0:=A3 (Jr.body hRh);have Ei:=A3 (show ∀x,S x→x<G.length from fun x hx=>by
    rcases Jr.Mv x hx with rfl|h1
    ·exact hh
    ·exact hR x h1)
   have ssz:=hB.A7.size;obtain⟨X,hX⟩:=AA (wr.alloc (.cells #[.map (some mb)] 99));have bX:Below wr.heap.size wr X:=hX▸(AP _ _).alloc (AH _) _;have HK:=A3 (show Calls Tryz.prog 73 #[.map (some mb)] wr fun e w'=>e=.returned (.func (.func 99) #[] #[.pointer (some ⟨wr.heap.size,0,none⟩)])∧X=w' from (anJ (some mb) wr).mono fun e w' ⟨h1,h2⟩=>⟨h1,by rw [h2,hX]⟩);have cz:=A3 (yF mb wr.heap.size G.length (Fs S) X (hB.im.below bX hB.im.lt) (ao2 Ei.out) A0 (by rw [←hX];simp) (by
    have k:X.heap[wr.heap.size]?=some (.cells #[.map (some mb)] 99 (0,0)):=hX▸Ai _ _
    simp [World.cell?,k]))
   have⟨Co,zZ⟩:=AL (hB.A7.trans (bX.mono ssz)) (show ∀l,dI (Fs S) l→X6 (Dj P) R h Eu l from fun l hl=>⟨hl.Rf,fun x=>by rw [hl.mem,zo,P0.out]⟩);clear hB Jr hall hX bX;go_wp2_with (first|(go_at_call 73;refine HK.out.mono ?_;rintro e w' ⟨rfl,rfl⟩)|(go_at_call 40;refine cz.out.mono ?_;rintro e W9 ⟨v,l,rfl,hi,hsk,hb9⟩));go_ret;exact⟨v,l,rfl,jx hi (by have:=Co.out.size;omega),zZ.out l hsk,Co.out.trans (hb9.mono Co.out.size)⟩
section
def EP (ord:List Nat) (pos:Nat→Nat) (es:List (Int×Int)) (h:Nat):List Nat:=(es.filter fun e=>decide (e.1.toNat∈ord∧pos e.2.toNat≤pos e.1.toNat∧e.2.toNat=h)).map fun e=>e.1.toNat
theorem pL {ord:List Nat} {pos:Nat→Nat} {es:List (Int×Int)} {a b:Nat} (h:¬(a∈ord∧pos b≤pos a)):EP ord pos (es++[((a:Int),(b:Int))])=EP ord pos es:=by
 funext k;unfold EP;rw [eA,Nx];simp only [aN,List.filter_nil,Dk];rw [A9 (by simp only [DK];exact fun hc=>h ⟨hc.1,hc.2.1⟩)];simp
theorem apu {ord:List Nat} {pos:Nat→Nat} {es:List (Int×Int)} {a b:Nat} (h1:a∈ord) (h2:pos b≤pos a):EP ord pos (es++[((a:Int),(b:Int))])=upd (EP ord pos es) b (EP ord pos es b++[a]):=by
 funext k;unfold upd EP;rw [eA,Nx];simp only [aN,List.filter_nil,Dk];by_cases hk:k=b
 ·subst hk
  rw [AE rfl,AE (by simp [h1,h2])];rfl
 ·rw [A9 hk,A9 (by simp only [DK];exact fun hc=>hk hc.2.2.symm)]
  simp
theorem anr (ord:List Nat) (pos:Nat→Nat):EP ord pos []=fun _=>[]:=rfl
theorem vE (ord:List Nat) (pos:Nat→Nat) (es:List (Int×Int)) (h:Nat):(EP ord pos es h).length≤es.length:=by
 unfold EP;rw [ED];exact jN _ _
open Classical in
noncomputable def Ka (F:Nat→List Nat) (val:Nat→Value):Int→Option Value:=fun k=>if 0≤k∧F k.toNat≠[] then some (val k.toNat) else none
theorem aqj {F:Nat→List Nat} {val:Nat→Value} {h:Nat} (hf:F h≠[]):Ka F val (h:Int)=some (val h):=by unfold Ka;rw [AE ⟨by omega,by rw [Dk];exact hf⟩,Dk]
theorem aqJ {F:Nat→List Nat} {val:Nat→Value} {h:Nat} (hf:F h=[]):Ka F val (h:Int)=none:=by unfold Ka;rw [A9];rintro⟨_,h2⟩;rw [Dk] at h2;exact h2 hf
theorem aox (F:Nat→List Nat) (val:Nat→Value) (h a:Nat) (v:Value):EK (Ka F val) (h:Int) v=Ka (upd F h (F h++[a])) (upd val h v):=by
 funext k;unfold EK Ka upd;by_cases hk:k=(h:Int)
 ·subst hk
  rw [AE rfl,AE ⟨by omega,by rw [Dk,AE rfl];simp⟩,Dk,AE rfl]
 ·rw [A9 hk]
  by_cases h0:0≤k
  ·have:k.toNat≠h:=by omega
   rw [A9 this,A9 this]
  ·rw [A9 (fun hc=>h0 hc.1),A9 (fun hc=>h0 hc.1)]
theorem dZ {F:Nat→List Nat} {val:Nat→Value} {x:Int}:Ka F val x≠none↔0≤x∧F x.toNat≠[]:=by
 unfold Ka;split
 ·rename_i h;simp [h]
 ·rename_i h;simp only [ne_eq,not_true_eq_false,false_iff];exact h
structure GM (B:Nat) (wr:World) (mb:Nat) (F:Nat→List Nat) (val:Nat→Value):Prop where
 im:Im wr mb (Ka F val)
 own:∀k,wr.ownsRow B 3 1 (val k) (F k).length (Av (Bg (F k)))
 Et:∀i j,i≠j→∀q,(val i).ownBlock=some q→(val j).ownBlock≠some q
 nl:∀k,F k=[]→val k=.slice none 0 0
section
variable {B mb:Nat} {wr w2 W':World} {F:Nat→List Nat} {val:Nat→Value}
theorem GM.ne (h:GM B wr mb F val) (k:Nat):some mb≠(val k).ownBlock:=fun e=>by
 obtain⟨es,cl,h1,_⟩:=h.im;rcases (h.own k).2 with⟨h2,_⟩|⟨g,cap,cur,h2,_,hg,_⟩
 ·rw [h2] at e;cases e
 ·rw [h2] at e
  simp [Value.ownBlock] at e;rw [←e,h1] at hg;cases hg
theorem GM.below (h:GM B wr mb F val) (hb:Below wr.heap.size wr w2):GM B w2 mb F val:=
 ⟨h.im.below hb h.im.lt,fun k=>CH (h.own k) hb,h.Et,h.nl⟩
theorem GM.made (w:World):GM B (w.alloc (.map #[] 0)) w.heap.size (fun _=>[]) (fun _=>.slice none 0 0):=by
 refine⟨?_,fun k=>JV _ _ _ _,fun i j _ q hq=>(by cases hq),fun _ _=>rfl⟩;have:=Im.made w
 rwa [show Ka (fun _=>[]) (fun _=>Value.slice none 0 0)=fun _=>none by funext k;unfold Ka;rw [A9];simp]
theorem GM.app (h:GM B wr mb F val) {i a:Nat} {v':Value} {W2:World} (hb:Below wr.heap.size wr w2) (hg:w2.grownBy W' (val i).ownBlock)
  (hown:W'.ownsRow B 3 1 v' ((F i).length+1) (Av (Bg (F i))++[.int .i64 (a:Int)])) (Ce:v'.ownBlock=(val i).ownBlock∨v'.ownBlock=some w2.heap.size)
  (hm:Im W2 mb (EK (Ka F val) (i:Int) v')) (hs:W2.heap.size=W'.heap.size) (hk:∀q,q≠mb→W2.heap[q]?=W'.heap[q]?) (ho:W2.os=W'.os) (ht:W2.tape=W'.tape) (hp:W2.output=W'.output) :
  GM B W2 mb (upd F i (F i++[a])) (upd val i v'):=by
 have G:=grown_of hb hg;have S:W'.grownBy W2 (some mb):=⟨ho,ht,hp,by omega,fun k _ hne=>hk k fun e=>hne Rq⟩;have nem:∀ {v:Value} {n:Nat} {xs:List Value},W'.ownsRow B 3 1 v n xs→v.ownBlock=none∨v.ownBlock≠some mb:=fun {v n xs} hv=>.inr fun e=>by
  rcases hv.2 with⟨h2,_⟩|⟨g,cap,cur,h2,_,hg2,_⟩
  ·rw [h2] at e;cases e
  ·rw [h2] at e
   simp [Value.ownBlock] at e;obtain⟨es,cl,h1,_⟩:=h.im;have hlt:=h.im.lt;have h3:W'.heap[mb]?=some (.map es cl):=(G.block mb hlt (h.ne i)).trans h1;rw [←e,hg2] at h3;cases h3
 have e:Av (Bg (F i++[a]))=Av (Bg (F i))++[.int .i64 (a:Int)]:=by simp [Av,Bg]
 refine⟨by rw [←aox];exact hm,fun k=>?_,fun j c Ml q hq=>?_,fun k hk=>?_⟩
 ·unfold upd
  by_cases hki:k=i
  ·subst hki
   rw [AE rfl,AE rfl,show (F k++[a]).length=(F k).length+1 by simp,e];exact hown.kept S (nem hown)
  ·rw [A9 hki,A9 hki]
   have h1:W'.ownsRow B 3 1 (val k) (F k).length (Av (Bg (F k))):=(h.own k).kept G (by
    cases hv:(val k).ownBlock with
    | none=>exact .inl rfl
    | some q=>exact .inr fun e'=>h.Et i k (Ds hki) q e'.symm hv)
   exact h1.kept S (nem h1)
 ·have new:∀j,j≠i→∀q,v'.ownBlock=some q→(val j).ownBlock≠some q:=fun j hji q hq hq2=>by
   rcases Ce with h1|h1
   ·rw [h1] at hq
    exact h.Et i j (Ds hji) q hq hq2
   ·rw [h1] at hq
    cases hq;have:=((h.own j).lt _ hq2).2;have:=hb.size;omega
  unfold upd at hq ⊢;by_cases e1:j=i
  ·rw [AE e1] at hq
   rw [A9 (fun e=>Ml (e1.trans e.symm))];exact new c (fun e=>Ml (e1.trans e.symm)) q hq
  ·rw [A9 e1] at hq
   by_cases e2:c=i
   ·rw [AE e2]
    exact fun hq2=>new j e1 q hq2 hq
   ·rw [A9 e2]
    exact h.Et j c Ml q hq
 ·unfold upd at hk ⊢
  by_cases e1:k=i
  ·rw [AE e1] at hk;simp at hk
  ·rw [A9 e1] at hk;rw [A9 e1];exact h.nl k hk
end
theorem ar7 (w:World):(zeroValue 38).run Tryz.prog w=.ok (.slice none 0 0) w:=by kernel_rfl
theorem GM.look {B mb:Nat} {wr:World} {F:Nat→List Nat} {val:Nat→Value} (h:GM B wr mb F val) {i:Nat} (hi:i≤1000000):(Instr.lookup 107 (.map (some mb)) (.int .i64 (i:Int)) false).run Tryz.prog wr=.ok (val i) wr:=by
 by_cases hf:F i=[]
 ·have h1:=h.im.Wb (P:=Tryz.prog) (kt:=3) (t:=107) (e:=38) CS gL (ar7 wr) (J1 (k:=(i:Int)) A0 A0) (aqJ hf) false
  have h3:=h.nl i hf;rw [h3];simpa using h1
 ·have h1:=h.im.Sm (P:=Tryz.prog) (kt:=3) (t:=107) (e:=38) CS gL (aqj hf) false
  simpa using h1
section
variable {V wr w2:World} {mb:Nat} {r:Option Nat}
theorem Oj (h:V.grownBy wr r) (hb:Below wr.heap.size wr w2):V.grownBy w2 r:=
 ⟨hb.os.trans h.os,hb.tape.trans h.tape,hb.output.trans h.output,EM h.size hb.size,fun k hk hne=>(hb.block k (by have:=h.size;omega)).trans (h.block k hk hne)⟩
theorem iO {row:Option Nat} (h:V.grownBy wr r) (hg:wr.grownBy w2 row) (hr:∀k,row=some k→V.heap.size≤k):V.grownBy w2 r:=
 ⟨hg.os.trans h.os,hg.tape.trans h.tape,hg.output.trans h.output,EM h.size hg.size,fun k hk hne=>(hg.block k (by have:=h.size;omega) (fun e=>by have:=hr k e.symm;omega)).trans (h.block k hk hne)⟩
theorem ajN (h:V.grownBy wr (some mb)) (ho:w2.os=wr.os) (ht:w2.tape=wr.tape) (hp:w2.output=wr.output) (hs:w2.heap.size=wr.heap.size) (hk:∀i,i≠mb→w2.heap[i]?=wr.heap[i]?):V.grownBy w2 (some mb):=
 ⟨ho.trans h.os,ht.trans h.tape,hp.trans h.output,by rw [hs];exact h.size,fun k hk' hne=>(hk k (fun e=>hne Rq)).trans (h.block k hk' hne)⟩
def P9 (w:World) (mb:Nat):Prop:=∃es cl,w.heap[mb]?=some (.map es cl)
theorem Im.acS {f:Int→Option Value} (h:Im V mb f):P9 V mb:=by obtain⟨es,cl,h1,_⟩:=h;exact⟨es,cl,h1⟩
theorem P9.cell (h:P9 V mb) (hg:V.grownBy wr (some mb)) {b o:Nat} {v:Value} (hc:V.cell? ⟨b,o,none⟩=some v):wr.cell? ⟨b,o,none⟩=some v:=hg.cell hc fun e=>by
 obtain⟨es,cl,h1⟩:=h;simp only [Ri] at e;subst e;simp [World.cell?,h1] at hc
theorem P9.box (h:P9 V mb) (hg:V.grownBy wr (some mb)) {q:Nat} {cs:Array Value} {t:TypeId} {fr:Nat×Nat} (hc:V.heap[q]?=some (.cells cs t fr)):wr.heap[q]?=some (.cells cs t fr):=(hg.block q (Be.1 hc).1 fun e=>by
 obtain⟨es,cl,h1⟩:=h;simp only [Ri] at e;subst e
 rw [hc] at h1;cases h1).trans hc
theorem P9.ints (h:P9 V mb) (hg:V.grownBy wr (some mb)) {v:Value} {l:List Int} (hi:Ints V v l):Ints wr v l:=by
 obtain⟨A,cap,h1,h2,h3,h4⟩:=hi;refine⟨A,cap,h1,h2,h3,fun h0=>?_⟩;obtain⟨b,off,e,hl,hc⟩:=h4 h0;exact⟨b,off,e,by have:=hg.size;omega,fun k hk=>h.cell hg (hc k hk)⟩
theorem P9.lls (h:P9 V mb) (hg:V.grownBy wr (some mb)) {v:Value} {P:List (List Int)} (hi:CO V v P):CO wr v P:=by
 obtain⟨A,cap,h1,h2,h3,h4⟩:=hi;refine⟨A,cap,h1,h2,h3,fun h0=>?_⟩;obtain⟨b,off,e,hl,hc⟩:=h4 h0;exact⟨b,off,e,by have:=hg.size;omega,fun k x hx=>by
  obtain⟨u,h5,h6⟩:=hc k x hx
  exact⟨u,h.cell hg h5,h.ints hg h6⟩⟩
end
structure Qp where
 h:Int
 bv:Value
 lv:Value
 p:Int
def JB (q:Qp):List Value:=[.int .i64 q.h,q.bv,q.lv,.int .i64 q.p]
def Gd (Q:List Qp):List Value:=Q.flatMap JB
theorem mO:∀(Q:List Qp) (k j:Nat) (q:Qp),Q[k]?=some q→j<4→(Gd Q)[k*4+j]?=(JB q)[j]?
 | y :: Q,0,j,q,h,hj=>by
  simp at h;subst h;have e:Gd (y :: Q)=JB y++Gd Q:=by simp [Gd]
  rw [e,TN,EU,JJ (by simpa [JB] using hj)]
 | y :: Q,k+1,j,q,h,hj=>by
  have h':Q[k]?=some q:=by simpa using h
  have e:Gd (y :: Q)=JB y++Gd Q:=by simp [Gd]
  rw [e,J4 (by simp [JB];omega),show (k+1)*4+j - (JB y).length=k*4+j by simp [JB];omega];exact mO Q k j q h' hj
theorem tZ:∀(Q:List Qp) (k:Nat) (q:Qp) (x:Int),Q[k]?=some q→(Gd Q).set (k*4+3) (.int .i64 x)=Gd (Q.set k { q with p:=x })
 | y :: Q,0,q,x,h=>by simp at h;subst h;simp [Gd,JB]
 | y :: Q,k+1,q,x,h=>by
  have h':Q[k]?=some q:=by simpa using h
  have e:Gd (y :: Q)=JB y++Gd Q:=by simp [Gd]
  have e2:Gd ((y :: Q).set (k+1) { q with p:=x })=JB y++Gd (Q.set k { q with p:=x }):=by simp [Gd]
  rw [e,e2,List.set_append_right _ _ (by simp [JB];omega),show (k+1)*4+3 - (JB y).length=k*4+3 by simp [JB];omega,tZ Q k q x h']
structure LL (B:Nat) (wr:World) (v:Value) (Q:List Qp) (L:List Lp):Prop where
 row:wr.ownsRow B 46 4 v Q.length (Gd Q)
 len:Q.length=L.length
 each:∀(k:Nat) (q:Qp) (x:Lp),Q[k]?=some q→L[k]?=some x→q.h=x.h∧wr.ownsRow B 3 1 q.bv x.bl.length (Av x.bl)∧wr.ownsRow B 3 1 q.lv x.la.length (Av x.la)
theorem LL.below {B:Nat} {wr w2:World} {v:Value} {Q:List Qp} {L:List Lp} (h:LL B wr v Q L) (hb:Below wr.heap.size wr w2):LL B w2 v Q L:=
 ⟨CH h.row hb,h.len,fun k q x hq hx=>by
  obtain⟨h1,h2,h3⟩:=h.each k q x hq hx
  exact⟨h1,CH h2 hb,CH h3 hb⟩⟩
theorem LL.nil (B:Nat) (wr:World):LL B wr (.slice none 0 0) [] []:=⟨JV _ _ _ _,rfl,fun k q x hq=>by simp at hq⟩
theorem LL.Si {B:Nat} {wr:World} {v:Value} {Q:List Qp} {L:List Lp} (h:LL B wr v Q L):Ih wr v L:=by
 rcases h.row.2 with⟨rfl,h0⟩|⟨g,cap,cur,rfl,h1,h2,h3,h4,_,_⟩
 ·exact⟨none,0,by rw [←h.len,h0],by have:=h.len;omega,by unfold maxLen;omega,fun h9=>by have:=h.len;omega⟩
 ·refine⟨_,cap,by rw [←h.len],by have:=h.len;omega,h4,fun _=>⟨g,0,rfl,(Be.1 h2).1,fun k x hx=>?_⟩⟩
  have hk:k<Q.length:=by rw [h.len];exact (Bl.1 hx).1
  have hq:Q[k]?=some Q[k]:=Aj hk;obtain⟨e1,e2,e3⟩:=h.each k _ x hq hx;have c:∀j,j<4→wr.cell? ⟨g,0+k*4+j,none⟩=(JB Q[k])[j]?:=fun j hj=>by
   rw [EU,h.row.cellAt _ A0,mO Q k j _ hq hj]
  have c0:=c 0 A0;rw [fU] at c0;exact⟨by rw [c0,← e1];rfl,⟨_,c 1 A0,MF e2⟩,⟨_,c 2 A0,MF e3⟩,_,c 3 A0⟩
end
section
section
variable {B B' m n:Nat} {wr w2 W':World} {mb:Nat} {F:Nat→List Nat} {val:Nat→Value} {v v' u:Value} {xs ys:List Value} {Q:List Qp} {L:List Lp}
theorem Oz (hi:wr.ownsRow B 3 1 u m ys) (hr:wr.ownsRow B' 46 4 v n xs) (hg:wr.grownBy W' v.ownBlock):W'.ownsRow B 3 1 u m ys:=hi.kept hg (by
 cases hu:u.ownBlock with
 | none=>exact .inl rfl
 | some q=>exact .inr fun e=>FE hi hr AK q hu e.symm)
theorem GM.aqm (h:GM B wr mb F val) (hr:wr.ownsRow B' 46 4 v n xs) (hg:wr.grownBy W' v.ownBlock):GM B W' mb F val:=
 ⟨h.im.keep (hg.block mb h.im.lt fun e=>by
  obtain⟨es,cl,h1,_⟩:=h.im;rcases hr.2 with⟨h2,_⟩|⟨g,cap,cur,h2,_,h3,_⟩
  ·rw [h2] at e;cases e
  ·rw [h2] at e
   simp [Value.ownBlock] at e;rw [←e,h1] at h3
   cases h3),fun k=>Oz (h.own k) hr hg,h.Et,h.nl⟩
theorem LL.app {q:Qp} {x:Lp} (h:LL B wr v Q L) (hb:Below wr.heap.size wr w2) (hg:w2.grownBy W' v.ownBlock) (hown:W'.ownsRow B 46 4 v' (Q.length+1) (Gd Q++JB q)) (hq:q.h=x.h∧wr.ownsRow B 3 1 q.bv x.bl.length (Av x.bl)∧wr.ownsRow B 3 1 q.lv x.la.length (Av x.la)):LL B W' v' (Q++[q]) (L++[x]):=by
 have h2:=h.below hb;refine⟨?_,by simp [h.len],fun k q' x' hk hx=>?_⟩
 ·rw [show (Q++[q]).length=Q.length+1 by simp,show Gd (Q++[q])=Gd Q++JB q by simp [Gd]]
  exact hown
 ·by_cases hlt:k<Q.length
  ·rw [JJ hlt] at hk
   rw [JJ (by rw [←h.len];exact hlt)] at hx;obtain⟨e1,e2,e3⟩:=h2.each k q' x' hk hx;exact⟨e1,Oz e2 h2.row hg,Oz e3 h2.row hg⟩
  ·have hkl:=(Bl.1 hk).1
   obtain rfl:k=Q.length:=by simp at hkl;omega
   rw [J4 (AH _)] at hk;rw [J4 (by rw [h.len];exact AH _)] at hx;simp [h.len] at hk hx;subst hk hx;exact⟨hq.1,Oz (CH hq.2.1 hb) h2.row hg,Oz (CH hq.2.2 hb) h2.row hg⟩
theorem LL.aiN {g cap k:Nat} {q:Qp} (h:LL B wr (.slice (some ⟨g,0,none⟩) m cap) Q L) (hk:Q[k]?=some q) (x:Int):LL B (wr.setCell ⟨g,k*4+3,none⟩ (.int .i64 x)) (.slice (some ⟨g,0,none⟩) m cap) (Q.set k { q with p:=x }) L:=by
 have hm:m=Q.length:=by
  rcases h.row.2 with⟨e,_⟩|⟨_,_,_,e,_⟩
  ·cases e
  ·cases e;rfl
 subst hm;have r:=(h.row.stored (k*4+3) (.int .i64 x)).1;rw [tZ Q k q x hk] at r;have hg:wr.grownBy (wr.setCell ⟨g,k*4+3,none⟩ (.int .i64 x)) (Value.slice (some ⟨g,0,none⟩) Q.length cap).ownBlock:=Hh wr g _ _;refine⟨by rw [NP];exact r,by rw [NP];exact h.len,fun j q' x' hj hx=>?_⟩;by_cases e:k=j
 ·subst e
  have hkl:=(Bl.1 hk).1;rw [IY,AE rfl,AE hkl] at hj;cases hj;obtain⟨e1,e2,e3⟩:=h.each k q x' hk hx;exact⟨e1,Oz e2 h.row hg,Oz e3 h.row hg⟩
 ·rw [IY,A9 e] at hj
  obtain⟨e1,e2,e3⟩:=h.each j q' x' hj hx;exact⟨e1,Oz e2 h.row hg,Oz e3 h.row hg⟩
end
theorem jW {w:World} {B:Nat} {e:TypeId} {size n:Nat} {v:Value} {xs:List Value} (h:w.ownsRow B e size v n xs):∃A cap,v=.slice A n cap:=by
 rcases h.2 with⟨h1,h2⟩|⟨g,cap,cur,h1,_⟩
 ·exact⟨_,_,by rw [h1,h2]⟩
 ·exact⟨_,_,h1⟩
theorem aqe {w:World} {b:Nat} {cs:Array Value} {t:TypeId} (h:w.heap[b]?=some (.cells cs t (0,0))) (o:Nat):w.frozen? ⟨b,o,none⟩=false:=by simp [World.frozen?,h]
theorem aon (w:World) (a b c d:Value) (t:TypeId):∀j u,[a,b,c,d][j]?=some u→(w.alloc (.cells #[a,b,c,d] t)).cell? ((⟨w.heap.size,0,none⟩:Addr).add j)=some u:=by
 intro j u h;have e:(⟨w.heap.size,0,none⟩:Addr).add j=⟨w.heap.size,j,none⟩:=by cases j<;>simp [Addr.add]
 rw [e];unfold World.cell?;rw [Ai];simpa using h
theorem yA {ord:List Nat} {pos:Nat→Nat} {es:List (Int×Int)} {h:Nat}:∀l∈EP ord pos es h,∃e∈es,e.1.toNat=l∧e.2.toNat=h∧l∈ord:=fun l hl=>by
 unfold EP at hl;obtain⟨e,he,rfl⟩:=Bx.1 hl;obtain⟨h1,h2⟩:=Sz.1 he;have h3:=GQ h2;exact⟨e,h1,rfl,h3.2.2,h3.1⟩
end
def Le (ord:List Nat) (pos:Nat→Nat) (D:List Int) (es:List (Int×Int)):Prop:=∀e∈es,e.1.toNat∈ord→pos e.2.toNat≤pos e.1.toNat→Ah D e.1.toNat e.2.toNat
theorem Le.snoc {ord:List Nat} {pos:Nat→Nat} {D:List Int} {es:List (Int×Int)} (h:Le ord pos D es) {a b:Nat} (k:a∈ord→pos b≤pos a→Ah D a b):Le ord pos D (es++[((a:Int),(b:Int))]):=fun e he=>by
 rcases CG.1 he with he|he
 ·exact h e he
 ·obtain rfl:e=((a:Int),(b:Int)):=by simpa using he
  simpa using k
structure LB (P:List (List Int)) (ord:List Nat) (pos:Nat→Nat) (es:List (Int×Int)) (D:List Int) (L:List Lp):Prop where
 ok:Le ord pos D es
 Rf:(L.map (·.h)).Pairwise (· < ·)
 mem:∀x,x∈L.map (·.h)↔0≤x∧EP ord pos es x.toNat≠[]
 each:∀x∈L,x.la=Bg (EP ord pos es x.h.toNat)∧X6 (Dj P) (·∈ord) x.h.toNat (EP ord pos es x.h.toNat) x.bl
theorem lJ {G:List AV} {P:List (List Int)} (HV:Ea G P) {e:Int×Int} (h:e∈Cf G G.length []):∃a b:Nat,e=((a:Int),(b:Int))∧a<G.length∧b<G.length∧b∈Ar G a:=by
 unfold Cf at h;simp only [XU,M8,cj,J9,Bx] at h;obtain⟨a,ha,t,ht,rfl⟩:=h;obtain⟨z,hz⟩:=HV.ok;have hx:G[a]?=some G[a]:=Aj ha;obtain⟨e,he⟩:=hz.each _ (Bf hx);rw [List.getD,hx] at ht;have:=he.nx t ht;refine⟨a,t.toNat,by rw [P6 this.1],ha,by omega,?_⟩;rw [fF hx];exact Bx.2 ⟨t,ht,rfl⟩
theorem anI:(Tryz.prog.info? 46).map (fun i=>(i.zero,i.size,i.bytes))=some (some (.agg #[.int .i64 0,.slice none 0 0,.slice none 0 0,.int .i64 0]),4,64):=by kernel_rfl
theorem oQ (bv pv:Value) (G:List AV) (P:List (List Int)) (w:World) (HG:Dc w bv G) (HP:CO w pv P) (HV:Ea G P) (hn:G.length≤5000) :
  Calls Tryz.prog 13 #[.agg #[bv,pv]] w fun e w'=>(∃D,Ff G D∧((∃v L,e=.returned (.tuple #[v,.int .i64 (-1),.int .i64 0])∧Ih w' v L∧LB P (CR G.length (Ar G)) (Dq G.length (Ar G)) (Cf G G.length []) D L)∨(∃tg:Int,e=.returned (.tuple #[.slice none 0 0,.int .i64 tg,.int .i64 16])∧¬Le (CR G.length (Ar G)) (Dq G.length (Ar G)) D (Cf G G.length []))))∧Below w.heap.size w w':=by
 have HB:=A3 (GB.of HV hn);have hne:0<G.length:=Ic.2 HV.ne;obtain⟨gr,OV⟩:=Q3 hne HB.out.lt;have Nb:=A3 HV;obtain⟨A,cap,rfl,hc1,hc2⟩:=HG.slice;obtain⟨PA,B7,rfl,hp1,hp2⟩:=HP.slice;obtain⟨V0,Bv⟩:=AA (w.alloc (.cells #[.slice A G.length cap,.slice PA P.length B7] 31));obtain⟨gq,PX⟩:∃q,w.heap.size=q:=⟨_,rfl⟩;have b0:Below w.heap.size w V0:=Bv▸(AP _ _).alloc (AH _) _;have k0:V0.heap[gq]?=some (.cells #[.slice A G.length cap,.slice PA P.length B7] 31 (0,0)):=by rw [←Bv,← PX];exact Ai _ _
 have y0:V0.cell? ⟨gq,0,none⟩=some (.slice A G.length cap):=by simp [World.cell?,k0]
 have y1:V0.cell? ⟨gq,1,none⟩=some (.slice PA P.length B7):=by simp [World.cell?,k0]
 have s0:gq<V0.heap.size:=(Be.1 k0).1;have Fw:=A3 (show Calls Tryz.prog 35 #[.agg #[.slice A G.length cap,.slice PA P.length B7]] V0 fun e w'=>e=.returned (.bool true)∧Below V0.heap.size V0 w' from
  (Yd _ _ G P V0 (HG.below b0) (HP.below b0) hn (fun x hx=>by obtain⟨i,hi⟩:=LH.1 hx;exact HB.out.two i x hi)).mono fun e w' h=>by
   obtain⟨⟨r,rfl,hr⟩,hb⟩:=h;rw [hr.2 HV]
   exact⟨rfl,hb⟩)
 have⟨HGV,Wu⟩:=AL (HG.below b0) (HP.below b0);obtain⟨ord,ho⟩:∃o,CR G.length (Ar G)=o:=⟨_,rfl⟩;obtain⟨pos,Kj⟩:∃o,Dq G.length (Ar G)=o:=⟨_,rfl⟩;obtain⟨EL,hel⟩:∃l,Cf G G.length []=l:=⟨_,rfl⟩;rw [ho,Kj,hel];have⟨HO,Pa,HEL⟩:=B8 ho Kj hel;rw [ho,Kj] at gr;rw [ho] at OV;have⟨EB,B0⟩:=AL gr b0;have hol:ord.length≤G.length:=OS OV gr.lt;clear HG HP HV b0 k0 hc1 hc2 hp1 gr ho Kj OV hel;obtain⟨m,hm⟩:=AA ord.length;rw [hm] at hol;have HM:=A3 hm;obtain⟨iI,E5,E7,DT,Dw⟩:=D5 NQ;clear hm;go_enter Tryz.func13,Tryz.ntmps13;go_upto_region 3 with (go_at_call 35;refine Fw.out.mono ?_;rintro e W1 ⟨rfl,hb1⟩);have BV1:=A3 hb1;have u0:W1.cell? ⟨gq,0,none⟩=some (.slice A G.length cap):=(hb1.cell (p:=⟨gq,0,none⟩) s0).trans y0;obtain⟨U1,lm,CB,gr1⟩:=O7 (P:=Tryz.prog) W1 V0.heap.size 38 3 iI (.int .i64 0) 1 Ey E5 E7 DT .i64 .i64 G.length dH Bc BV1.out.size;rw [Mk,show (Value.int .i64 0).cells=#[Value.int .i64 0] from rfl,Ni] at CB;obtain⟨pb,hpb⟩:∃q,W1.heap.size=q:=⟨_,rfl⟩;rw [hpb] at lm;have r0:Av (List.replicate G.length 0)=List.replicate G.length (Value.int .i64 0):=by simp [Av]
 have⟨JH,Ek⟩:=AL (show U1.ownsRow V0.heap.size 3 1 (.slice (some ⟨pb,0,none⟩) G.length G.length) G.length (Av (H9 G.length 0)) by rw [jy,r0,← hpb];exact CB) gr1;have hBU:Below V0.heap.size V0 U1:=BV1.out.grown gr1 BV1.out.size (fun k hk=>by cases hk);have J7:=A3 hBU;clear CB gr1 hpb hb1 r0 E5 E7 DT Dw iI hBU Fw Bv;go_upto_region 5 with fail;clear lm u0;go_loopw [29] (fun a29 wr=>∃k:Nat,k≤G.length∧a29=.int .i64 (k:Int)∧wr.ownsRow V0.heap.size 3 1 (.slice (some ⟨pb,0,none⟩) G.length G.length) G.length (Av (H9 G.length k))∧Below V0.heap.size V0 wr) (fun a29 _=>G.length - (intOf a29).toNat);case atStart=>exact⟨0,Ck _,rfl,JH.out,J7.out⟩
 case round=>
  obtain⟨k,hk,rfl,hr,hg⟩:=hrel;have⟨RL,HR⟩:=AL hg hr;by_cases hlt:k<G.length
  ·have dl:decide ((k:Int)<(G.length:Int))=true:=AR A0
   have i1:(k:Int)<(G.length:Int):=by omega
   have x1:=Mh hr (by simp [H9]) hlt;have x2:=hr.frozenAt k;have r1:=(hr.stored k (.int .i64 (-1))).1;rw [UB,qU] at r1;have⟨R1,G1⟩:=AL r1 (hg.setCell (p:=⟨pb,k,none⟩) (hr.lt pb rfl).1 (.int .i64 (-1)));have Zd:=(hr.lt pb rfl).2;clear hr hg r1 JH J7 Ek;go_wp2_with fail;go_roundw;case rel=>exact⟨k+1,by omega,by go_num,R1.out,G1.out⟩
   case measure=>exact Aa
  ·obtain rfl:k=G.length:=by omega
   have dl:decide ((G.length:Int)<(G.length:Int))=false:=by simp
   obtain⟨w2,hw2⟩:∃w2:World,w2=wr:=⟨_,rfl⟩;subst hw2;have Ul:=A3 (oH _ _ G P w2 (HGV.out.below hg) (Wu.out.below hg) Nb.out hn);have g0:w2.cell? ⟨gq,0,none⟩=some (.slice A G.length cap):=(hg.cell (p:=⟨gq,0,none⟩) s0).trans y0;have g1:w2.cell? ⟨gq,1,none⟩=some (.slice PA P.length B7):=(hg.cell (p:=⟨gq,1,none⟩) s0).trans y1;have sg2:gq<w2.heap.size:=by have:=hg.size;omega
   rw [uG,← vJ G.length ord pos] at hr;have Dz:=A3 hr;rw [HO.out,HM.out] at Ul;clear hr hg JH J7 Ek HR dl;go_upto_region 10 with (go_at_call 36;refine Ul.out.mono ?_;rintro e W3 ⟨⟨og,Ot,rfl,Sb,hog⟩,hb3⟩);have⟨SD,Tx,E8,Fl⟩:=Bz Sb (RL.out.trans (hb3.mono RL.out.size)) (CH Dz.out hb3) hb3;have sM:og≠pb:=by have:=(Dz.out.lt pb rfl).2;omega
   clear Sb hb3 g0 g1 sg2 hog;go_loopw [39] (fun a39 wr=>∃i:Nat,i≤m∧a39=.int .i64 (i:Int)∧wr.ownsRow V0.heap.size 3 1 (.slice (some ⟨pb,0,none⟩) G.length G.length) G.length (Av (Gj G.length ord pos i))∧Below V0.heap.size V0 wr∧W3.grownBy wr (some pb)) (fun a39 _=>m - (intOf a39).toNat);case atStart=>exact⟨0,Ck _,rfl,E8.out,Tx.out,⟨rfl,rfl,rfl,AH _,fun _ _ _=>rfl⟩⟩
   case round=>
    obtain⟨i,hi,rfl,hr,hg,hg3⟩:=hrel;have⟨jf,zb⟩:=AL hg hg3;by_cases hlt:i<m
    ·have dl:decide ((i:Int)<(m:Int))=true:=AR A0
     obtain⟨b,hb⟩:∃b,ord[i]?=some b:=⟨_,Aj VG⟩;have Cc:=EB.out.lt b (Bf hb);obtain⟨-,sog,h2⟩:=Zn SD.out (k:=i) (by rw [Bg,ED,HM.out];exact hlt);rw [jL hb] at h2;have oc:wr.cell? ⟨og,i,none⟩=some (.int .i64 (b:Int)):=hg3.cell h2 (fun e=>sM (by injection e));have i1:(b:Int)<(G.length:Int):=by omega
     have x1:=Mh hr (uU _ _ _ _) Cc;have x2:=hr.frozenAt b;have r1:=(hr.stored b (.int .i64 (i:Int))).1;rw [UB,wJ EB.out hb] at r1;have⟨R1,G1⟩:=AL r1 (hg.setCell (p:=⟨pb,b,none⟩) (hr.lt pb rfl).1 (.int .i64 (i:Int)));have G3:=A3 (show W3.grownBy (wr.setCell ⟨pb,b,none⟩ (.int .i64 (i:Int))) (some pb) from⟨hg3.os,hg3.tape,hg3.output,by have:=hg3.size;simpa using this,fun k hk rF=>by
      have hkp:k≠pb:=fun e=>rF Rq
      rw [BL _ _ _ _ hkp];exact hg3.block k hk rF⟩)
     have Zd:=(hr.lt pb rfl).2;clear hr hg hg3 r1 h2 E8 Tx hb;go_wp2_with fail;go_roundw;case rel=>exact⟨i+1,by omega,by go_num,R1.out,G1.out,G3.out⟩
     case measure=>exact Aa
    ·obtain rfl:m=i:=by omega
     have dl:decide ((m:Int)<(m:Int))=false:=by simp
     obtain⟨w4,hw4⟩:∃w4:World,w4=wr:=⟨_,rfl⟩;subst hw4;have rJ:=A3 (wL _ _ G P w4 (HGV.out.below hg) (Wu.out.below hg) Nb.out hn);have g0:w4.cell? ⟨gq,0,none⟩=some (.slice A G.length cap):=(hg.cell (p:=⟨gq,0,none⟩) s0).trans y0;have g1:w4.cell? ⟨gq,1,none⟩=some (.slice PA P.length B7):=(hg.cell (p:=⟨gq,1,none⟩) s0).trans y1;have sg2:gq<w4.heap.size:=by have:=hg.size;omega
     have Hr:=A3 hr;clear hr hg hg3 E8 Tx Fl dl SD sM;go_upto_region 15 with (go_at_call 37;refine rJ.out.mono ?_;rintro e W5 ⟨⟨dv,D,rfl,O0,OD⟩,hb5⟩);have⟨HDI,Sk,HIT,Kr,HR5⟩:=Fi O0 OD (show IM G.length (Ar G) ord pos D by have:=OD;unfold Ff at this;rwa [HO.out,Pa.out] at this) (jf.out.trans (hb5.mono jf.out.size)) (CH Hr.out hb5);have hs5:=Kr.out.size;have hmm:=@run_makeMap Tryz.prog;obtain⟨mb,hmb⟩:∃q,W5.heap.size=q:=⟨_,rfl⟩;obtain⟨W6,Xf⟩:∃V,W5.alloc (.map #[] 0)=V:=⟨_,rfl⟩;have b6:Below W5.heap.size W5 W6:=Xf▸(AP _ _).alloc (AH _) _;have⟨GM6,B6,Q1,DI6,R6⟩:=Fi (show GM W6.heap.size W6 mb (fun _=>[]) (fun _=>.slice none 0 0) by rw [←hmb];have:=GM.made (B:=W6.heap.size) W5;rw [Xf] at this;exact this) (Kr.out.trans (b6.mono Kr.out.size)) (show w.heap.size≤mb by have:=B0.out.size;omega) (HDI.out.below b6) (CH HR5.out b6);have g2:W6.cell? ⟨gq,0,none⟩=some (.slice A G.length cap):=(B6.out.cell (p:=⟨gq,0,none⟩) s0).trans y0;have g3:W6.cell? ⟨gq,1,none⟩=some (.slice PA P.length B7):=(B6.out.cell (p:=⟨gq,1,none⟩) s0).trans y1;have sg6:gq<W6.heap.size:=by have:=B6.out.size;omega
     clear O0 OD hb5 g0 g1 sg2 b6 Hr rJ jf zb HDI HR5;go_upto_region 16 with fail;have GH:=A3 (aiL _ (.slice PA P.length B7) G W6 (HGV.out.below B6.out) hn (fun x hx=>by obtain⟨i,hi⟩:=LH.1 hx;exact HB.out.two i x hi));rw [HEL.out] at GH;clear hmm Xf hmb;go_upto_region 17 with (go_at_call 38;refine GH.out.mono ?_;rintro e V ⟨⟨ev,rfl,hev⟩,Ky⟩;obtain⟨EA,Cz,rfl,he1,he2,-⟩:=id hev);obtain⟨ne,bu⟩:∃n,EL.length=n:=⟨_,rfl⟩;rw [bu] at he1 ⊢;have⟨Ke,VZ,Ec⟩:=B8 bu hev (B6.out.trans (Ky.mono B6.out.size));have Vr:=A3 (show ∀k,k<G.length→V.cell? ⟨pb,k,none⟩=some (.int .i64 ((Gj G.length ord pos ord.length).getD k (-1))) from fun k hk=>by
      have:=Mh (CH R6.out Ky) (uU _ _ _ _) hk
      rwa [←HM.out] at this)
     have spV:pb<V.heap.size:=((CH R6.out Ky).lt pb rfl).2;have⟨HDV,OE,Ny⟩:=B8 (DI6.out.below Ky) (show P9 V mb from (GM6.out.im.below Ky GM6.out.im.lt).acS) (show GM V.heap.size V mb (EP ord pos (EL.take 0)) (fun _=>.slice none 0 0) from⟨by rw [List.take_zero,anr];exact GM6.out.im.below Ky GM6.out.im.lt,fun k=>JV _ _ _ _,fun i j _ q hq=>(by cases hq),fun _ _=>rfl⟩);have sgV:gq<V.heap.size:=by have:=Ec.out.size;omega
     have kgV:=Ec.out.cell (p:=⟨gq,0,none⟩) s0;have rT:=Ec.out.cell (p:=⟨gq,1,none⟩) s0;rw [y0] at kgV;rw [y1] at rT;have arb:ne≤30000000:=by
      have:=pK G (fun x hx=>by obtain⟨i,hi⟩:=LH.1 hx;exact HB.out.two i x hi) G.length (AH _) [];rw [HEL.out,bu] at this;simp at this;omega
     clear bu hev Ky g2 g3 sg6 hs5;go_loopw [55] (fun a55 wr=>∃(k:Nat) (val:Nat→Value),k≤ne∧a55=.int .i64 (k:Int)∧V.grownBy wr (some mb)∧GM V.heap.size wr mb (EP ord pos (EL.take k)) val∧Le ord pos D (EL.take k)) (fun a55 _=>ne - (intOf a55).toNat);case atStart=>exact⟨0,_,Ck _,rfl,⟨rfl,rfl,rfl,AH _,fun _ _ _=>rfl⟩,Ny.out,fun e he=>by simp at he⟩
     case round=>
      clear Ny;obtain⟨k,val,hk,rfl,hg,Ib,hok⟩:=hrel;have⟨HG,Ny,Em⟩:=B8 hg Ib hok;have JI:=hg.size;clear hok;by_cases hlt:k<ne
      ·have dl:decide ((k:Int)<(ne:Int))=true:=AR A0
       have i1:(k:Int)<(ne:Int):=by omega
       obtain⟨e,he⟩:∃e,EL[k]?=some e:=⟨_,Aj (by rw [Ke.out];exact hlt)⟩;obtain⟨a,b,rfl,UX,Cc,BJ⟩:=lJ Nb.out (e:=e) (by rw [HEL.out];exact Bf he);have CU:=A3 (show EL.take (k+1)=EL.take k++[((a:Int),(b:Int))] by rw [G4,he];rfl);obtain⟨eb,eo,hEA,seb,ec0,ec1⟩:∃eb eo,EA=some ⟨eb,eo,none⟩∧eb<V.heap.size∧V.cell? ⟨eb,eo+k*2,none⟩=some (.int .i64 (a:Int))∧V.cell? ⟨eb,eo+k*2+1,none⟩=some (.int .i64 (b:Int)):=by
        obtain⟨_,_,e1,_,_,e4⟩:=VZ.out;cases e1;obtain⟨eb,eo,e5,e6,e7⟩:=e4 (by rw [Ke.out];omega);exact⟨eb,eo,e5,e6,(e7 k _ he).1,(e7 k _ he).2⟩
       subst hEA;have ec2:=OE.out.cell hg ec0;have ec3:=OE.out.cell hg ec1;have sew:eb<wr.heap.size:=by omega
       have pa:=OE.out.cell hg (Vr.out a UX);have pbb:=OE.out.cell hg (Vr.out b Cc);rw [fW EB.out UX] at pa;rw [fW EB.out Cc] at pbb;have dP:pb<wr.heap.size:=by omega
       have ian:(a:Int)<(G.length:Int):=by omega
       have ibn:(b:Int)<(G.length:Int):=by omega
       have Cw:=A3 BJ;clear ec0 ec1 he BJ Ib hg;go_upto_region 19 with fail;obtain⟨q12,lT⟩:∃q,wr.heap.size=q:=⟨_,rfl⟩;obtain⟨X,hX⟩:=AA (wr.alloc (.cells #[.int .i64 (a:Int),.int .i64 (b:Int)] 109));rw [hX,lT];have bX:Below wr.heap.size wr X:=hX▸(AP _ _).alloc (AH _) _;have kX:X.heap[q12]?=some (.cells #[.int .i64 (a:Int),.int .i64 (b:Int)] 109 (0,0)):=by rw [←lT,← hX];exact Ai _ _
       have z0:X.cell? ⟨q12,0,none⟩=some (.int .i64 (a:Int)):=by simp [World.cell?,kX]
       have z1:X.cell? ⟨q12,1,none⟩=some (.int .i64 (b:Int)):=by simp [World.cell?,kX]
       have szq:q12<X.heap.size:=(Be.1 kX).1;have xa:=(bX.cell (p:=⟨pb,a,none⟩) dP).trans pa;have xb:=(bX.cell (p:=⟨pb,b,none⟩) dP).trans pbb;have spX:pb<X.heap.size:=by have:=bX.size;omega
       have BX:=A3 bX;clear hX lT bX kX ec2 ec3 pa pbb sew;refine Cg A6 A6 ?_;repeat (go_big_quiet_step (fail))
       refine Ba ?_;rintro _ ⟨y,rfl⟩;by_cases hao:a∈ord
       ·have NT:b∈ord:=EB.out.closed a hao b Cw.out
        rw [AE hao] at xa;rw [AE NT] at xb;obtain⟨qa,MA⟩:∃q,pos a=q:=⟨_,rfl⟩;obtain⟨qb,Jv⟩:∃q,pos b=q:=⟨_,rfl⟩;rw [MA] at xa;rw [Jv] at xb;have d0:decide ((qa:Int)<0)=false:=Aq A0;by_cases hgt:qa<qb
        ·have DU:=A3 (show ¬(a∈ord∧pos b≤pos a) from fun h=>by have:=h.2;omega)
         have d1:decide ((qa:Int)<(qb:Int))=true:=AR A0;have d2:decide (qa<qb)=true:=AR hgt;clear MA Jv hgt hao NT;go_upto_region 20 with fail;refine mL (x:=y) A6 A6 ?_;repeat (go_big_quiet_step (fail))
         refine Ba ?_;rintro _ ⟨y2,rfl⟩;have HY:=A3 (BX.out.trans (y2.h.mono BX.out.size));clear xa xb z0 z1;go_wp2_with fail;go_roundw;case rel=>exact⟨k+1,val,by omega,by go_num,Oj HG.out HY.out,by rw [CU.out,pL DU.out];exact Ny.out.below HY.out,by rw [CU.out];exact Em.out.snoc fun h1 h2=>absurd ⟨h1,h2⟩ DU.out⟩
         case measure=>exact Aa
        ·have Ng:=A3 (show a∈ord∧pos b≤pos a from⟨hao,by omega⟩)
         have d1:decide ((qa:Int)<(qb:Int))=false:=Aq A0;have d2:decide (qa<qb)=false:=Aq hgt;clear MA Jv hgt NT;go_upto_region 20 with fail;refine mL (x:=y) A6 A6 ?_;repeat (go_big_quiet_step (fail))
         refine Ba ?_;rintro _ ⟨y2,rfl⟩;have HY:=A3 (BX.out.trans (y2.h.mono BX.out.size));clear xa xb z0 z1;have qZ:=A3 (zj EB.out HIT.out (by rw [HM.out];exact hol) hn _ b a y2.w ((OE.out.ints HG.out HDV.out).below HY.out) Cc hao);clear hao;by_cases VY:Ah D a b
         ·have Z8:=A3 (qZ.out.mono fun e w' (h:(∃r:Bool,e=.returned (.bool r)∧(r=true↔Ah D a b))∧Below y2.w.heap.size y2.w w')=>(show e=.returned (.bool true)∧Below y2.w.heap.size y2.w w' from by
           obtain⟨⟨r,rfl,hr⟩,hb⟩:=h;rw [hr.2 VY]
           exact⟨rfl,hb⟩))
          have XW:=A3 (show Le ord pos D (EL.take (k+1)) by rw [CU.out];exact Em.out.snoc fun _ _=>VY);clear VY;go_upto_region 23 with (go_at_call 39;refine Z8.out.mono ?_;rintro e W7 ⟨rfl,hb7⟩);have b7:=HY.out.trans (hb7.mono HY.out.size);have⟨UU,G7⟩:=AL (Ny.out.below b7) (Oj HG.out b7);have hl:=UU.out.look (i:=b) A0;have hown:=UU.out.own b;have jK:=UU.out.ne b;obtain⟨FL,RD⟩:∃l,EP ord pos (EL.take k) b=l:=⟨_,rfl⟩;have hFn:FL.length≤ne:=by
           have:=vE ord pos (EL.take k) b;rw [RD] at this;have h2:(EL.take k).length≤k:=by simp;omega
           omega
          rw [RD] at hown;obtain⟨vA,CD,MC⟩:∃vA CD,val b=.slice vA FL.length CD:=by
           rcases hown.2 with⟨h,h'⟩|⟨g,cap',cur,h,_⟩
           ·exact⟨_,_,by rw [h,h']⟩
           ·exact⟨_,_,h⟩
          rw [MC] at hl hown jK;have⟨aI,Tm,Rp,aoW⟩:=Bz MC RD hown jK;have smb:=UU.out.im.lt;have sV7:=G7.out.size;obtain⟨iI,E5,E7,DT,Dw⟩:=D5 NQ;obtain⟨cE,hW7⟩:∃W:World,W=W7:=⟨_,rfl⟩;subst hW7;clear MC RD hown jK b7 hb7;go_wp2_with (first|(at_builtin;refine Kf _ rfl (.tmp 89) (.tmp 91) 38 rfl V.heap.size 3 iI (.int .i64 0) 1 8 Ey E5 E7 DT Dw rfl AK (.slice vA FL.length CD) _ _ rfl (Rp.out.alloc _) ⟨cE.heap.size,0,none⟩ 1 1 [.int .i64 (a:Int)] rfl rfl (DV _ _ _) BS Bc A0 Hz ?_;intro v' W' hown' hgrow _ Ce;obtain⟨g',cap',rfl⟩:=GI hown';obtain⟨W8,hput,hm8,o1,o2,o3,o4,o5⟩:=(UU.out.im.keep ((hgrow.block mb Cl aoW.out).trans (Bb _ _ smb))).put (P:=Tryz.prog) (kt:=3) (t:=107) (e:=38) CS gL (k:=(b:Int)) (J1 A0 A0) (.slice (some ⟨g',0,none⟩) (FL.length+1) cap');simp only [kv] at hput));go_roundw;case rel=>
           have bA:Below cE.heap.size cE (cE.alloc (.cells #[.int .i64 (a:Int)] 3)):=(AP _ _).alloc (AH _) _;refine⟨k+1,upd val b (.slice (some ⟨g',0,none⟩) (FL.length+1) cap'),by omega,by go_num,?_,?_,XW.out⟩
           ·exact ajN (iO (Oj G7.out bA) hgrow (fun q hq=>(Rp.out.lt q hq).1)) o1 o2 o3 o4 o5
           ·rw [CU.out,apu Ng.out.1 Ng.out.2]
            exact UU.out.app bA (by rw [aI.out];exact hgrow) (by rw [Tm.out];exact hown') (by rw [aI.out];exact Ce) hm8 o4 o5 o1 o2 o3
          case measure=>exact Aa
         ·have Z8:=A3 (qZ.out.mono fun e w' (h:(∃r:Bool,e=.returned (.bool r)∧(r=true↔Ah D a b))∧Below y2.w.heap.size y2.w w')=>(show e=.returned (.bool false)∧Below y2.w.heap.size y2.w w' from by
           obtain⟨⟨r,rfl,hr⟩,hb⟩:=h;have:r=false:=by
            cases r with
            | false=>rfl
            | true=>exact absurd (hr.1 rfl) VY
           rw [this]
           exact⟨rfl,hb⟩))
          have aop:=A3 (show ¬Le ord pos D EL from fun h=>VY (by
           have:=h ((a:Int),(b:Int)) (sL (i:=k+1) (by rw [CU.out];simp))
           simpa using this Ng.out.1 Ng.out.2))
          clear VY;go_wp2_with (go_at_call 39;refine Z8.out.mono ?_;rintro e W7 ⟨rfl,hb7⟩);refine Al (results_tmp3 rfl _ _ _) rfl ⟨⟨D,Sk.out,.inr ⟨_,rfl,aop.out⟩⟩,?_⟩;exact (((B0.out.trans (Ec.out.mono B0.out.size)).grown (Oj HG.out HY.out) (by have:=B0.out.size;have:=Ec.out.size;omega) (fun k hk=>by cases hk;exact Q1.out)).trans (hb7.mono (by have:=B0.out.size;have:=Ec.out.size;have:=(Oj HG.out HY.out).size;omega)))
       ·have DU:=A3 (show ¬(a∈ord∧pos b≤pos a) from fun h=>hao h.1)
        rw [A9 hao] at xa;have d0:decide ((-1:Int)<0)=true:=by decide
        clear hao;go_upto_region 20 with fail;refine mL (x:=y) A6 A6 ?_;repeat (go_big_quiet_step (fail))
        refine Ba ?_;rintro _ ⟨y2,rfl⟩;have HY:=A3 (BX.out.trans (y2.h.mono BX.out.size));clear xa xb z0 z1;go_wp2_with fail;go_roundw;case rel=>exact⟨k+1,val,by omega,by go_num,Oj HG.out HY.out,by rw [CU.out,pL DU.out];exact Ny.out.below HY.out,by rw [CU.out];exact Em.out.snoc fun h1 h2=>absurd ⟨h1,h2⟩ DU.out⟩
        case measure=>exact Aa
      ·obtain rfl:ne=k:=by omega
       have dl:decide ((ne:Int)<(ne:Int))=false:=by simp
       have Da:EL.take ne=EL:=Gq (by rw [Ke.out];exact AH _);rw [Da] at Ib;obtain⟨F,hF⟩:∃f,EP ord pos EL=f:=⟨_,rfl⟩;rw [hF] at Ib;have⟨HF,HGF,XW⟩:=B8 hF Ib (show Le ord pos D EL by have:=Em.out;rwa [Da] at this);have I7:=A3 (show ∀h,∀l∈F h,l<G.length∧l∈ord∧h<G.length∧h∈ord from fun h l hl=>by
        rw [←hF] at hl;obtain⟨e,h1,h2,h3,h4⟩:=yA l hl;obtain⟨a,b,rfl,h5,h6,h7⟩:=lJ Nb.out (e:=e) (by rw [HEL.out];exact h1);simp only [Dk] at h2 h3;subst h2 h3
        exact⟨h5,h4,h6,EB.out.closed _ h4 _ h7⟩)
       have HNN:=A3 (show ∀h,F h≠[]→h<G.length∧h∈ord from fun h hh=>by
        obtain⟨l,hl⟩:=List.exists_mem_of_ne_nil _ hh
        exact (I7.out h l hl).2.2)
       obtain⟨X,hX⟩:=AA (wr.alloc (.cells #[.map (some mb)] 107));have bX:Below wr.heap.size wr X:=hX▸(AP _ _).alloc (AH _) _;have HK:=A3 (show Calls Tryz.prog 41 #[.map (some mb)] wr fun e w'=>e=.returned (.func (.func 71) #[] #[.pointer (some ⟨wr.heap.size,0,none⟩)])∧X=w' from (zg (some mb) wr).mono fun e w' ⟨h1,h2⟩=>⟨h1,by rw [h2,hX]⟩);have cz:=A3 (ajF mb wr.heap.size G.length (Ka F val) X (Ib.im.below bX Ib.im.lt) (fun k v hk=>by
        have:=dZ.1 (show Ka F val k≠none by rw [hk];simp);have:=(HNN.out _ this.2).1
        omega) A0 (by rw [←hX];simp) (by
        have k:X.heap[wr.heap.size]?=some (.cells #[.map (some mb)] 107 (0,0)):=hX▸Ai _ _
        simp [World.cell?,k]))
       have BX:=A3 bX;clear Ib hg Da hF hX bX Em Ke dl he1 he2;go_upto_region 27 with (first|(go_at_call 41;refine HK.out.mono ?_;rintro e w' ⟨rfl,rfl⟩)|(go_at_call 40;refine cz.out.mono ?_;rintro e W9 ⟨hv,hs,rfl,mM,hsk,hb9⟩;obtain⟨hA,hcap,rfl⟩:=jW mM));have b9:=BX.out.trans (hb9.mono BX.out.size);have⟨G9,GM9⟩:=AL (Oj HG.out b9) (HGF.out.below b9);have sVX:V.heap.size≤X.heap.size:=by have:=HG.out.size;have:=BX.out.size;omega
       have⟨HS9,Py⟩:=AL (jx mM sVX) hsk;obtain⟨hn9,Ug⟩:∃n,hs.length=n:=⟨_,rfl⟩;rw [Ug] at HS9 ⊢;have Xg:=A3 Ug;have arX:hn9≤5000:=by
        have:=vq (n:=G.length) (l:=hs) (hsk.Rf.imp fun {a b} h=>by omega) (fun x hx=>by
         have:=dZ.1 ((hsk.mem x).1 hx);have:=(HNN.out _ this.2).1
         omega)
        omega
       obtain⟨iL,LK,hL0,hL1,hL2⟩:=D5 anI;clear mM hsk hb9 b9 Ug Ny HG HGF BX HK cz sVX;go_loopw [15,98] (fun a15 a98 wr=>∃(j:Nat) (lvv:Value) (Q:List Qp) (L:List Lp),j≤hn9∧a98=.int .i64 (j:Int)∧a15=lvv∧V.grownBy wr (some mb)∧GM V.heap.size wr mb F val∧wr.ownsRow V.heap.size 3 1 (.slice hA hn9 hcap) hn9 (Av hs)∧LL V.heap.size wr lvv Q L∧L.map (·.h)=hs.take j∧∀x∈L,x.la=Bg (F x.h.toNat)∧X6 (Dj P) (·∈ord) x.h.toNat (F x.h.toNat) x.bl) (fun _ a98 _=>hn9 - (intOf a98).toNat);case atStart=>exact⟨0,_,[],[],Ck _,rfl,rfl,G9.out,GM9.out,HS9.out,LL.nil _ _,by simp,by simp⟩
       case round=>
        clear G9 GM9 HS9;obtain⟨j,lvv,Q,L,hj,rfl,rfl,hg,Ib,JD,Hs,Vx,dK⟩:=hrel;obtain⟨lA,lQ,rfl⟩:=jW Hs.row;have⟨HG,Ny,HRS,Ik,Ym,G0⟩:=I2 hg Ib JD Hs Vx dK;have sVw:=hg.size;have VA:Q.length=j∧L.length=j:=by
         have h1:=congrArg List.length Vx;have h2:=Hs.len;have h3:=Xg.out;simp at h1;omega
        have bK:=A3 VA;by_cases hlt:j<hn9
        ·have dl:decide ((j:Int)<(hn9:Int))=true:=AR A0
         obtain⟨hx,hhx⟩:∃x,hs[j]?=some x:=⟨_,Aj (by rw [Xg.out];exact hlt)⟩;have hxs:=dZ.1 ((Py.out.mem hx).1 (Bf hhx));obtain⟨h,rfl⟩:∃h:Nat,hx=(h:Int):=⟨hx.toNat,by omega⟩;rw [Dk] at hxs;obtain⟨Ug,hho⟩:=HNN.out h hxs.2;obtain⟨hb,hbe,hbl,hc⟩:∃hb,hA=some ⟨hb,0,none⟩∧hb<wr.heap.size∧wr.cell? ⟨hb,j,none⟩=some (.int .i64 (h:Int)):=by
          rcases JD.2 with⟨e,h0⟩|⟨g,cap',cur,e,_⟩
          ·omega
          ·cases e
           refine⟨g,rfl,(JD.lt g rfl).2,?_⟩;rw [gl JD Xg.out hlt];simp [List.getD,hhx]
         subst hbe;have CU:=A3 (show hs.take (j+1)=hs.take j++[(h:Int)] by rw [G4,hhx];rfl);have hl:=Ib.look (i:=h) A0;have hown:=Ib.own h;obtain⟨vA,CD,MC⟩:∃vA CD,val h=.slice vA (F h).length CD:=by
          rcases hown.2 with⟨h1,h'⟩|⟨g,cap',cur,h1,_⟩
          ·exact⟨_,_,by rw [h1,h']⟩
          ·exact⟨_,_,h1⟩
         obtain⟨FL,RD⟩:∃l,F h=l:=⟨_,rfl⟩;rw [RD] at MC hown;rw [MC] at hl hown;obtain⟨fn,hfn⟩:∃n,FL.length=n:=⟨_,rfl⟩;have⟨TY,Rp,Tm⟩:=B8 hfn hown RD;rw [hfn] at hl MC;have aI:=A3 MC;clear hhx hxs hg Ib JD Hs Vx dK VA MC hfn hown RD;go_upto_region 30 with fail;obtain⟨q18,Z3⟩:∃q,wr.heap.size=q:=⟨_,rfl⟩;obtain⟨X1,Px⟩:∃X,wr.alloc (.cells #[.int .i64 (h:Int),.slice none 0 0,.slice vA fn CD,.int .i64 (-1)] 46)=X:=⟨_,rfl⟩;rw [Px,Z3];have b1:Below wr.heap.size wr X1:=Px▸(AP _ _).alloc (AH _) _;have k1:X1.heap[q18]?=some (.cells #[.int .i64 (h:Int),.slice none 0 0,.slice vA fn CD,.int .i64 (-1)] 46 (0,0)):=by rw [←Z3,← Px];exact Ai _ _
         have GX:=Oj HG.out b1;have HP1:=A3 (OE.out.lls GX (Wu.out.below Ec.out));have g0:=OE.out.cell GX kgV;have g1:=OE.out.cell GX rT;have aoB:=A3 (show jm X1 pb 0 G.length (·∈ord) from⟨by have:=GX.size;omega,fun k hk=>by
          have h1:=OE.out.cell GX (Vr.out k hk);rw [fW EB.out hk] at h1;refine⟨_,by rw [EU];exact h1,?_⟩;by_cases Zq:k∈ord
          ·rw [AE Zq];simp [Zq]
          ·rw [A9 Zq];simp [Zq]⟩)
         have NJ:=A3 (show Ints X1 (.slice vA fn CD) (Bg FL) from MF (by
          have:=CH Rp.out b1;rw [TY.out] at this;rw [show (Bg FL).length=fn by rw [Bg,ED,TY.out]]
          exact this))
         have hl1:=(Ny.out.below b1).look (i:=h) A0;rw [aI.out] at hl1;have apD:=hho;have⟨r8,B1X,K1X⟩:=B8 (apj Nb.out hn (fun x hx=>EB.out.lt x hx) X1 pb 0 G.length h (.slice A G.length cap) (.slice PA P.length B7) (.slice vA fn CD) FL HP1.out aoB.out NJ.out Ug hho (fun l hl=>(I7.out h l (by rw [Tm.out];exact hl)).1)) b1 k1;have sx1:X1.heap.size=q18+1:=by rw [←Px,El,Z3]
         have aqA:=A3 Z3;have bx:=Ep k1;have bx4:=bx.2.2.2.2;clear Px Z3 b1 k1 GX hho apD hl bx;go_upto_region 31 with (go_at_call 42;refine r8.out.mono ?_;rintro e W2 ⟨bv2,bl,rfl,NT,hbd,hb2⟩;obtain⟨bA,Fp,rfl⟩:=jW NT;have k2:=(hb2.block q18 bx4).trans K1X.out;have k2c:=(Ep k2).2.1;have k2f:=aqe k2 1;have k2s:=(Ep k2).2.2.2.2);obtain⟨X2,ZI⟩:∃X,W2.setCell ⟨q18,1,none⟩ (.slice bA bl.length Fp)=X:=⟨_,rfl⟩;rw [ZI];have k18:X2.heap[q18]?=some (.cells #[.int .i64 (h:Int),.slice bA bl.length Fp,.slice vA fn CD,.int .i64 (-1)] 46 (0,0)):=ZI▸Ej W2 q18 1 _ _ _ k2;obtain⟨c0,c1,c2,c3,c4⟩:=Ep k18;have hwq:=aqA.out;have Za:Below wr.heap.size wr X2:=ZI▸(B1X.out.trans (hb2.mono B1X.out.size)).setCell (p:=⟨q18,1,none⟩) (by show wr.heap.size≤q18;omega) _;have Dy:=A3 (show X2.ownsRow V.heap.size 3 1 (.slice bA bl.length Fp) bl.length (Av bl) from ZI▸(jx NT A0).kept (Hh W2 q18 1 _) (by
          cases hu:(Value.slice bA bl.length Fp).ownBlock with
          | none=>exact .inl rfl
          | some q=>exact .inr fun e=>by have:=(NT.lt q hu).1;cases e;omega))
         have MS:=A3 (show X2.ownsRow V.heap.size 3 1 (.slice vA fn CD) (Bg FL).length (Av (Bg FL)) by
          have:=CH Rp.out Za;rw [TY.out] at this;rw [show (Bg FL).length=fn by rw [Bg,ED,TY.out]]
          exact this)
         have OG:=A3 (Ik.out.below Za);have hrow:=OG.out.row;have hQ:Q.length≤5000:=by have:=bK.out.1;omega
         have⟨CT,SC,P0⟩:=B8 hrow Za hbd;have arJ:V.heap.size≤X2.heap.size:=by have:=Za.size;omega
         clear hwq ZI k18 Za hrow NT hbd hb2 k2 k2c k2f k2s r8 hl1 hc g0 g1;go_wp2_with (at_builtin;refine Kf _ rfl (.tmp 115) (.tmp 117) 35 rfl V.heap.size 46 iL _ 4 64 Tryz.underlying35 LK hL0 hL1 hL2 rfl AK (.slice lA Q.length lQ) _ _ rfl (CT.out.alloc _) ⟨X2.heap.size,0,none⟩ 1 1 [.int .i64 (h:Int),.slice bA bl.length Fp,.slice vA fn CD,.int .i64 (-1)] rfl rfl (aon _ _ _ _ _ _) BS Bc A0 Hz ?_;intro v' W' hown' hgrow _ Ce;obtain⟨g',cap',rfl⟩:=GI hown');go_roundw;case rel=>
          have bA2:Below X2.heap.size X2 (X2.alloc (.cells #[.int .i64 (h:Int),.slice bA bl.length Fp,.slice vA fn CD,.int .i64 (-1)] 46)):=(AP _ _).alloc (AH _) _;have bW:=SC.out.trans (bA2.mono SC.out.size);have hrA:=CT.out.alloc (.cells #[.int .i64 (h:Int),.slice bA bl.length Fp,.slice vA fn CD,.int .i64 (-1)] 46);refine⟨j+1,_,Q++[⟨(h:Int),.slice bA bl.length Fp,.slice vA fn CD,-1⟩],L++[⟨(h:Int),bl,Bg FL⟩],by omega,by go_num,rfl,?_,(Ny.out.below bW).aqm hrA hgrow,Oz (CH HRS.out bW) hrA hgrow,OG.out.app (q:=⟨(h:Int),.slice bA bl.length Fp,.slice vA fn CD,-1⟩) (x:=⟨(h:Int),bl,Bg FL⟩) bA2 hgrow hown' ⟨rfl,Dy.out,MS.out⟩,?_,fun x hx=>?_⟩
          ·exact iO (Oj HG.out bW) hgrow (fun q hq=>(CT.out.lt q hq).1)
          ·rw [Nx,Ym.out,CU.out];rfl
          ·rcases CG.1 hx with hx|hx
           ·exact G0.out x hx
           ·obtain rfl:x=⟨(h:Int),bl,Bg FL⟩:=by simpa using hx
            simp only [Dk];rw [Tm.out];exact⟨rfl,P0.out⟩
         case measure=>exact Aa
        ·obtain rfl:hn9=j:=by omega
         have dl:decide ((hn9:Int)<(hn9:Int))=false:=by simp
         have Z4:=A3 (show LB P ord pos EL D L from⟨XW.out,by rw [Vx,Gq (by rw [Xg.out];exact AH _)];exact Py.out.Rf,fun x=>by rw [Vx,Gq (by rw [Xg.out];exact AH _),Py.out.mem,dZ,HF.out],fun x hx=>by rw [HF.out];exact dK x hx⟩);have hQ:=VA.1;have hL9:L.length≤1000000:=by have:=VA.2;omega
         have HL9:=A3 VA.2;have HLQ:=A3 (show LL V.heap.size wr (.slice lA hn9 lQ) Q L by have:=Hs;rwa [hQ] at this);rw [hQ];clear hg Ib JD Hs Vx dK VA HRS Ny hQ Ik;go_upto_region 34 with fail;go_loopw [122] (fun gj wr=>∃(i:Nat) (Q:List Qp),i≤hn9∧gj=.int .i64 (i:Int)∧V.grownBy wr (some mb)∧LL V.heap.size wr (.slice lA hn9 lQ) Q L) (fun gj _=>hn9 - (intOf gj).toNat);case atStart=>exact⟨0,Q,Ck _,rfl,HG.out,HLQ.out⟩
         case round=>
          clear HLQ HG;obtain⟨i,Q5,hi,rfl,hg,Hs⟩:=hrel;have⟨HG,Ik⟩:=AL hg Hs;have sVw:=hg.size;by_cases hlt:i<hn9
          ·have dl:decide ((i:Int)<(hn9:Int))=true:=AR A0
           have i1:(i:Int)<(hn9:Int):=by omega
           obtain⟨g,hge,SH,bg⟩:∃g,lA=some ⟨g,0,none⟩∧V.heap.size≤g∧g<wr.heap.size:=by
            rcases Hs.row.2 with⟨e,_⟩|⟨g,cap',cur,e,_⟩
            ·cases e;omega
            ·cases e;exact⟨g,rfl,Hs.row.lt g rfl⟩
           subst hge;have hQn:Q5.length=hn9:=by rw [Hs.len,HL9.out]
           obtain⟨q,hq⟩:∃q,Q5[i]?=some q:=⟨_,Aj (by rw [hQn];exact hlt)⟩;have⟨HQI,amU⟩:=AL hq (abK _ L i wr Hs.Si (by rw [HL9.out];exact hlt) hL9);have aaN:=A3 (show ∀W3,Below wr.heap.size wr W3→W3.cell? ⟨g,i*4+3,none⟩=some (.int .i64 q.p)∧W3.frozen? ⟨g,i*4+3,none⟩=false∧g<W3.heap.size from fun W3 hb=>by
            have h3:=Hs.below hb;have hr:=h3.row;rw [hQn] at hr;refine⟨?_,hr.frozenAt _,by have:=hb.size;omega⟩;rw [hr.cellAt _ A0,mO Q5 i 3 q hq A0]
            rfl)
           clear hg Hs hq hQn;go_wp2_with (go_at_call 43;refine amU.out.mono ?_;rintro e W3 ⟨⟨r,rfl⟩,hb3⟩;obtain⟨cc1,cc2,cc3⟩:=aaN.out W3 hb3);go_roundw;case rel=>exact⟨i+1,_,by omega,by go_num,iO (Oj HG.out hb3) (Hh W3 g _ _) (fun k hk=>by cases hk;exact SH),(Ik.out.below hb3).aiN HQI.out r⟩
           case measure=>exact Aa
          ·obtain rfl:hn9=i:=by omega
           have dl:decide ((hn9:Int)<(hn9:Int))=false:=by simp
           clear hg Hs;go_wp2_with fail;refine Al (results_tmp3 rfl _ _ _) rfl ⟨⟨D,Sk.out,.inl ⟨_,L,rfl,Ik.out.Si,Z4.out⟩⟩,?_⟩;exact (B0.out.trans (Ec.out.mono B0.out.size)).grown HG.out (by have:=B0.out.size;have:=Ec.out.size;omega) (fun k hk=>by cases hk;exact Q1.out)
theorem arG {P:Program} {w:World} {ops:Array Oper} {rest:List Oper} {o:Oper} {a:Act} {Q:Exit→Act→World→Prop} (hgd:o.guard=none) (s x:Operand) (t:TypeId)
  (ho:o.op=.call { callee:=.builtin .append,args:=#[s,x],argTypes:=#[t,t] })
  (base:Nat) (e:TypeId) (i:TypeInfo) (z:Value) (size bytes:Nat) (ht:P.underlying t=some (.slice e)) (hi:P.info? e=some i) (hz:i.zero=some z)
  (hsize:i.size=size) (hby:i.bytes=bytes) (hzs:z.cells.size=size) (hsz:0<size)
  (v:Value) (n:Nat) (xs:List Value) (hs:a.eval s=v) (hown:w.ownsRow base e size v n xs)
  (base':Nat) (u:Value) (m:Nat) (news:List Value) (hx:a.eval x=u) (hsrc:w.ownsRow base' e size u m news) (h1:∀u∈news,u.oneCell'=true)
  (h63:n+m≤maxLen) (hbytes:(n+m)*bytes≤140737488355328) (hbase:base≤w.heap.size)
  (h:∀v' w',w'.ownsRow base e size v' (n+m) (xs++news)→w.grownBy w' v.ownBlock→(v'.ownBlock=v.ownBlock∨v'.ownBlock=some w.heap.size)→wpList P ops Q rest (a.put o.dst v') w') :
  wpList P ops Q (o :: rest) a w:=by
 rcases hsrc.2 with⟨rfl,rfl⟩|⟨g,cap,cur,rfl,_,hg,hn,_,hcs,Da⟩
 ·have hn:news=[]:=Zs.1 (by simpa using hsrc.1)
  subst hn;refine wpList_append_own_none hgd s x t ho base e i size ht hi v n xs hs hown hx ?_;exact h v w (by simpa using hown) (World.grownBy.refl w _) (.inl rfl)
 ·refine Kf w hgd s x t ho base e i z size bytes ht hi hz hsize hby hzs hsz v n xs hs hown ⟨g,0,none⟩ m cap news hx hsrc.1 (fun j y hy=>?_) h1 h63 hbytes hbase (fun v' w' h2 h3 _ h5=>h v' w' h2 h3 h5)
  have hjl:=(Bl.1 hy).1;have ea:(⟨g,0,none⟩:Addr).add j=⟨g,j,none⟩:=by cases j<;>simp [Addr.add]
  have key:=congrArg (fun x=>x[j]?) Da;rw [hsrc.1] at hjl;simp only [eu,hjl,N1] at key;rw [ea];have:=key.trans hy;simpa [World.cell?,hg] using this
end Go.Proofs.YtlmgkipmfgijiaaGreatDoor
