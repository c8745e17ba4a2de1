/-
  What is proved here: parts bIc, bIp, bKa.
-/
import Derived.Test.YtlmgkipmfgijiaaGreatDoorVa
import Derived.Test.YtlmgkipmfgijiaaGreatDoorVg
import Derived.Test.YtlmgkipmfgijiaaGreatDoorVb
import Derived.Test.YtlmgkipmfgijiaaGreatDoorVd
namespace Go.Proofs.YtlmgkipmfgijiaaGreatDoor
set_option linter.unusedVariables false
set_option linter.unusedSimpArgs false
set_option maxRecDepth 100000
set_option maxHeartbeats 8000000
open Go.RowKit
def divC (x y:Int×Int):List Int:=[x.1.tdiv y.1,x.1.tdiv y.2,x.2.tdiv y.1,x.2.tdiv y.2]
def U6 (x y:Int×Int):List Int:=(if y.1<0 then divC x (y.1,min y.2 (-1)) else [])++(if 0<y.2 then divC x (max y.1 1,y.2) else [])
def OE (x y:Int×Int):Int×Int:=
 if y.1=0∧y.2=0 then (1,0) else if (x.1≤-2147483648∧-2147483648≤x.2)∧(y.1≤-1∧-1≤y.2) then (-2147483648,2147483647) else Au (U6 x y)
structure Div (w W:World) (xl xh pl ph:Int) (p:Nat):Prop where
 below:Below w.heap.size w W
 bx:W.heap[w.heap.size]?=some (.cells #[.int .i32 xl,.int .i32 xh] 172 (0,0))
 br:W.heap[w.heap.size+1+1]?=some (.cells #[.int .i32 0,.int .i32 0] 172 (0,0))
 bp:W.heap[p]?=some (.cells #[.int .i32 pl,.int .i32 ph] 172 (0,0))
theorem lt_of_block {W:World} {k:Nat} {ob:Obj} (h:W.heap[k]?=some ob):k<W.heap.size:=by
 rcases KP k W.heap.size with h'|h'
 ·exact h'
 ·rw [mW h'] at h;cases h
theorem Nu {W:World} (ob:Obj) {k:Nat} {ob':Obj} (h:W.heap[k]?=some ob'):(W.alloc ob).heap[k]?=some ob':=by
 have hlt:=lt_of_block h;show (W.heap.push ob)[k]?=_;rw [Array.getElem?_push,A6 (Nat.ne_of_lt hlt)];exact h
theorem gF (W:World) (ob:Obj):(W.alloc ob).heap[W.heap.size]?=some ob:=by
 show (W.heap.push ob)[W.heap.size]?=_;rw [Array.getElem?_push,A9 rfl]
theorem fN {W W':World} {ob:Obj} {B n k:Nat} {v:Value} {xs:List Value} {c:Array Value} (hk:W.heap[k]?=some (.cells c 172 (0,0))) (hown:W.ownsRow B 2 1 v n xs) (hg:(W.alloc ob).grownBy W' v.ownBlock):W'.heap[k]?=some (.cells c 172 (0,0)):=by
 have hlt:=lt_of_block hk;rw [hg.block k I7 ?_]
 ·exact Nu ob hk
 ·rcases hown.2 with⟨rfl,_⟩|⟨g,cap,cur,rfl,_,hb,_⟩
  ·simp [Value.ownBlock]
  ·simp only [Value.ownBlock,ne_eq,MG]
   rintro rfl;rw [hk] at hb;simp at hb
theorem Div.grown {w W W':World} {xl xh pl ph:Int} {p B n:Nat} {v:Value} {xs:List Value} {ob:Obj} (D:Div w W xl xh pl ph p) (hB:w.heap.size≤B) (hown:W.ownsRow B 2 1 v n xs) (hg:(W.alloc ob).grownBy W' v.ownBlock):Div w W' xl xh pl ph p:=by
 have hs:=D.below.size;refine⟨(D.below.alloc hs ob).grown hg I7 ?_,fN D.bx hown hg,fN D.br hown hg,fN D.bp hown hg⟩;intro k hk;rcases hown.2 with⟨rfl,_⟩|⟨g,cap,cur,rfl,hb,_⟩
 ·cases hk
 ·cases hk;exact FK hB hb
theorem Wh {W:World} (y:Ext W) {k:Nat} {ob:Obj} (h:W.heap[k]?=some ob):y.w.heap[k]?=some ob:=by
 rw [y.h.block k (lt_of_block h)];exact h
theorem aqe {W:World} (y:Ext W) {B n size:Nat} {e:TypeId} {v:Value} {xs:List Value} (h:W.ownsRow B e size v n xs):y.w.ownsRow B e size v n xs:=by
 refine⟨h.1,?_⟩;rcases h.2 with h0|⟨g,cap,cur,hv,hb,hk,hr⟩
 ·exact .inl h0
 ·exact .inr ⟨g,cap,cur,hv,hb,Wh y hk,hr⟩
theorem Div.ext {w W:World} {xl xh pl ph:Int} {p B n:Nat} {v:Value} {xs:List Value} (D:Div w W xl xh pl ph p) (hown:W.ownsRow B 2 1 v n xs) (y:Ext W):∃W',y.w=W'∧Div w W' xl xh pl ph p∧W'.ownsRow B 2 1 v n xs:=
 ⟨_,rfl,⟨Ext.below D.below D.below.size y,Wh y D.bx,Wh y D.br,Wh y D.bp⟩,aqe y hown⟩
theorem Div.part {w W:World} {xl xh pl ph:Int} {p B n:Nat} {v:Value} {xs:List Value} (D:Div w W xl xh pl ph p) (hown:W.ownsRow B 2 1 v n xs) (ql qh:Int):∃(W':World) (q:Nat),W.alloc (.cells #[.int .i32 ql,.int .i32 qh] 172)=W'∧W.heap.size=q∧Div w W' xl xh ql qh q∧W'.ownsRow B 2 1 v n xs:=
 ⟨_,_,rfl,rfl,⟨D.below.alloc D.below.size _,Nu _ D.bx,Nu _ D.br,gF _ _⟩,hown.alloc _⟩
theorem Div.cells {w W:World} {xl xh pl ph:Int} {p:Nat} (D:Div w W xl xh pl ph p) :
  W.cell? ⟨w.heap.size,0,none⟩=some (.int .i32 xl)∧W.cell? ⟨w.heap.size,1,none⟩=some (.int .i32 xh)∧W.cell? ⟨p,0,none⟩=some (.int .i32 pl)∧W.cell? ⟨p,1,none⟩=some (.int .i32 ph)∧w.heap.size<W.heap.size∧p<W.heap.size:=by
 refine⟨?_,?_,?_,?_,lt_of_block D.bx,lt_of_block D.bp⟩<;>simp [World.cell?,D.bx,D.bp]
theorem Div.result {w W:World} {xl xh pl ph:Int} {p:Nat} (D:Div w W xl xh pl ph p) :
  W.cell? ⟨w.heap.size+1+1,0,none⟩=some (.int .i32 0)∧W.cell? ⟨w.heap.size+1+1,1,none⟩=some (.int .i32 0)∧W.frozen? ⟨w.heap.size+1+1,0,none⟩=false∧W.frozen? ⟨w.heap.size+1+1,1,none⟩=false∧w.heap.size+1+1<W.heap.size:=by
 refine⟨?_,?_,?_,?_,lt_of_block D.br⟩<;>simp [World.cell?,World.frozen?,D.br]
theorem Div.Eo {w W:World} {xl xh pl ph:Int} {p:Nat} (D:Div w W xl xh pl ph p) (ob:Obj):w.heap.size≤(W.alloc ob).heap.size:=by
 have:=D.below.size;rw [F9];omega
theorem fu (xl xh yl yh a b c d:Int) (w:World) (y:Ext (((w.alloc (Obj.cells #[Value.int IntKind.i32 xl,Value.int IntKind.i32 xh] 172)).alloc (Obj.cells #[Value.int IntKind.i32 yl,Value.int IntKind.i32 yh] 172)).alloc (Obj.cells #[Value.int IntKind.i32 0,Value.int IntKind.i32 0] 172))) :
  ∃W:World,(y.w.alloc (Obj.cells #[Value.int IntKind.i32 a,Value.int IntKind.i32 b] 172)).alloc (Obj.cells #[Value.int IntKind.i32 c,Value.int IntKind.i32 d] 172)=W∧Div w W xl xh xl xh w.heap.size:=by
 have hs:w.heap.size+1+1+1≤y.w.heap.size:=ow y.h;have e1:y.w.heap[w.heap.size]?=some (.cells #[.int .i32 xl,.int .i32 xh] 172 (0,0)):=Wh y (Nu _ (Nu _ (gF _ _)));have e2:y.w.heap[w.heap.size+1+1]?=some (.cells #[.int .i32 0,.int .i32 0] 172 (0,0)):=Wh y (by have:=gF ((w.alloc (Obj.cells #[Value.int IntKind.i32 xl,Value.int IntKind.i32 xh] 172)).alloc (Obj.cells #[Value.int IntKind.i32 yl,Value.int IntKind.i32 yh] 172)) (Obj.cells #[Value.int IntKind.i32 0,Value.int IntKind.i32 0] 172);rw [F9,F9] at this;exact this);refine⟨_,rfl,?_,Nu _ (Nu _ e1),Nu _ (Nu _ e2),Nu _ (Nu _ e1)⟩;exact Ia
theorem Ju (x y:Int) (h1 : -2147483648≤x) (h2:x≤2147483647) : -2147483648≤x.tdiv y∧x.tdiv y≤2147483648:=by
 have h:(x.tdiv y).natAbs≤x.natAbs:=by rw [Int.natAbs_tdiv];exact Nat.div_le_self _ _
 omega
theorem ew (a b c d:Int) (w:World):(Instr.index 224 (.agg #[.int .i32 a,.int .i32 b,.int .i32 c,.int .i32 d]) (.int .i64 0)).run Tryz.prog w=.ok (.agg #[.int .i32 a,.int .i32 b]) w:=by kernel_rfl
theorem jV (a b c d:Int) (w:World):(Instr.index 224 (.agg #[.int .i32 a,.int .i32 b,.int .i32 c,.int .i32 d]) (.int .i64 1)).run Tryz.prog w=.ok (.agg #[.int .i32 c,.int .i32 d]) w:=by kernel_rfl
theorem xJ (xl xh yl yh:Int) (w:World) (hx1 : -2147483648≤xl) (hx2:xl≤2147483647) (hx3 : -2147483648≤xh) (hx4:xh≤2147483647) (hy1 : -2147483648≤yl) (hy2:yl≤2147483647) (hy3 : -2147483648≤yh) (hy4:yh≤2147483647) (nh pl:Int) (NH:Hid (min yh (-1)=nh)) (PL:Hid (max yl 1=pl)) (NU:Hid ((decide (xl≤-2147483648) && decide (-2147483648≤xh))=false)∨Hid ((decide (xl≤-2147483648) && decide (-2147483648≤xh))=true)∧Hid ((decide (yl≤-1) && decide (-1≤yh))=false)) (nz:(yl==0 && yh==0)=false) (n1 : -2147483648≤nh) (n2:nh≤2147483647) (n3 : -2147483648≤pl) (n4:pl≤2147483647) (q1:yl≤nh) (q2:nh≤-1) (q3:yh<pl) (EP0:Hid (decide (nh<yl)=false)) (EP1:Hid (decide (yh<pl)=true)) :
  Calls Tryz.prog 145 #[.agg #[.int .i32 xl,.int .i32 xh],.agg #[.int .i32 yl,.int .i32 yh]] w fun e w'=>e=.returned (.agg #[.int .i32 (Au ([xl.tdiv yl,xl.tdiv nh,xh.tdiv yl,xh.tdiv nh])).1,.int .i32 (Au ([xl.tdiv yl,xl.tdiv nh,xh.tdiv yl,xh.tdiv nh])).2])∧Below w.heap.size w w':=by
 obtain⟨i0,hi,hz0,hz1,hz2⟩:=Dp Wi;have XH:=ix0;have XS:=ix1;have j0f:=ew;have j1f:=jV;have e2:=Ki;have zyl:(yl==0)=false:=by simp;omega
 have af8:=Ju xl yl A0 A0;have ath:=Ju xh yl A0 A0;have ag4:=Ju xl nh A0 A0;have abE:=Ju xh nh A0 A0;go_enter Zi,Zm;go_wp2_with fail;refine C7 A4 A4 ?_;repeat (go_big_quiet_step ((go_at_call 130;exact Calls.AW (Ed _ _))))
 refine BD ?_;rintro _ ⟨x1,rfl⟩;rcases NU with BX|⟨BX,BY⟩;all_goals
  go_wp2_with (first|(go_at_call 153;(first|(with_reducible refine (Calls.AW (Ie (N8 _ _ _ _) BX.out)).mono ?_)|(with_reducible refine (Calls.AW (Ie (N8 _ _ _ _) BY.out)).mono ?_));rintro e _ ⟨rfl,y,rfl⟩));obtain⟨W,hW,D⟩:=fu xl xh yl yh yl (min yh (-1)) (max yl 1) yh w y;rw [hW];clear hW;have hown:W.ownsRow w.heap.size 2 1 (.slice none 0 0) 0 []:=⟨rfl,.inl ⟨rfl,rfl⟩⟩;rw [NH.out,PL.out];refine GU 3 ?_;rw [BS];go_wp2_with fail;obtain⟨Wp0,q0,hW,hq,OU,RM⟩:=D.part hown (yl) (nh);rw [hW,hq];clear hW hq D hown;obtain⟨c1,c2,c3,c4,s1,s2⟩:=OU.cells;refine (Calls.ext (Ie (Ar _ _ _) EP0.out)).mono ?_;rintro e _ ⟨rfl,y,rfl⟩;obtain⟨We0,hW,MP,PZ⟩:=OU.ext RM y;rw [hW];clear hW OU RM;obtain⟨c1,c2,c3,c4,s1,s2⟩:=MP.cells;go_wp2_with fail;refine GU 3 ?_;rw [BS];go_wp2_with fail;refine GU 3 ?_;rw [BS];go_wp2_with (at_builtin;refine FH _ rfl (.tmp 65) (.tmp 69) 220 rfl w.heap.size 2 i0 (.int .i64 0) 1 8 FB hi hz0 hz1 hz2 rfl AP _ _ _ rfl (PZ.alloc _) ⟨World.heap We0 |>.size,0,none⟩ 1 1 [.int .i64 (xl.tdiv yl)] rfl rfl (Du _ _ _) Bd CJ A0 (MP.Eo _) ?_;intro va0 Wa0 G6 hgrow _);have L9:=MP.grown (AH _) PZ hgrow;obtain⟨c1,c2,c3,c4,s1,s2⟩:=L9.cells;clear hgrow PZ MP;go_wp2_with fail;rw [BS];go_wp2_with (at_builtin;refine FH _ rfl (.tmp 65) (.tmp 69) 220 rfl w.heap.size 2 i0 (.int .i64 0) 1 8 FB hi hz0 hz1 hz2 rfl AP _ _ _ rfl (G6.alloc _) ⟨World.heap Wa0 |>.size,0,none⟩ 1 1 [.int .i64 (xl.tdiv nh)] rfl rfl (Du _ _ _) Bd CJ A0 (L9.Eo _) ?_;intro va1 Wa1 hown1 hgrow _);have Lj:=L9.grown (AH _) G6 hgrow;obtain⟨c1,c2,c3,c4,s1,s2⟩:=Lj.cells;clear hgrow G6 L9;go_wp2_with fail;rw [BS];go_wp2_with fail;rw [BS];go_wp2_with fail;refine GU 3 ?_;rw [BS];go_wp2_with (at_builtin;refine FH _ rfl (.tmp 65) (.tmp 69) 220 rfl w.heap.size 2 i0 (.int .i64 0) 1 8 FB hi hz0 hz1 hz2 rfl AP _ _ _ rfl (hown1.alloc _) ⟨World.heap Wa1 |>.size,0,none⟩ 1 1 [.int .i64 (xh.tdiv yl)] rfl rfl (Du _ _ _) Bd CJ A0 (Lj.Eo _) ?_;intro va2 Wa2 hown2 hgrow _);have La:=Lj.grown (AH _) hown1 hgrow;obtain⟨c1,c2,c3,c4,s1,s2⟩:=La.cells;clear hgrow hown1 Lj;go_wp2_with fail;rw [BS];go_wp2_with (at_builtin;refine FH _ rfl (.tmp 65) (.tmp 69) 220 rfl w.heap.size 2 i0 (.int .i64 0) 1 8 FB hi hz0 hz1 hz2 rfl AP _ _ _ rfl (hown2.alloc _) ⟨World.heap Wa2 |>.size,0,none⟩ 1 1 [.int .i64 (xh.tdiv nh)] rfl rfl (Du _ _ _) Bd CJ A0 (La.Eo _) ?_;intro va3 Wa3 Hh hgrow _);have Mh:=La.grown (AH _) hown2 hgrow;obtain⟨c1,c2,c3,c4,s1,s2⟩:=Mh.cells;clear hgrow hown2 La;go_wp2_with fail;rw [BS];go_wp2_with fail;rw [BS];go_wp2_with fail;rw [BS];go_wp2_with fail;obtain⟨Wp1,q1,hW,hq,Nh,Rf⟩:=Mh.part Hh (pl) (yh);rw [hW,hq];clear hW hq Mh Hh;obtain⟨c1,c2,c3,c4,s1,s2⟩:=Nh.cells;refine (Calls.ext (Ie (Ar _ _ _) EP1.out)).mono ?_;rintro e _ ⟨rfl,y,rfl⟩;obtain⟨We1,hW,LC,PV⟩:=Nh.ext Rf y;rw [hW];clear hW Nh Rf;obtain⟨c1,c2,c3,c4,s1,s2⟩:=LC.cells;go_wp2_with fail;rw [BS];go_wp2_with fail;obtain⟨g,cap,hv,hg,hc⟩:=VR (l:=[xl.tdiv yl,xl.tdiv nh,xh.tdiv yl,xh.tdiv nh]) rfl (by simpa using PV) AR;rw [hv];obtain⟨r1,r2,r3,r4,r5⟩:=LC.result;have kB:=LC.below;clear hv PV LC;refine (Calls.ext (Td g cap [xl.tdiv yl,xl.tdiv nh,xh.tdiv yl,xh.tdiv nh] _ AR AR hg hc)).mono ?_;rintro e _ ⟨rfl,y5,rfl⟩;clear hc
  go_wp2
  all_goals
   refine Af (v:=.agg #[.int .i32 (Au [xl.tdiv yl,xl.tdiv nh,xh.tdiv yl,xh.tdiv nh]).1,.int .i32 (Au [xl.tdiv yl,xl.tdiv nh,xh.tdiv yl,xh.tdiv nh]).2]) ?hr rfl ⟨rfl,?AA⟩;case hr=>
    simp [results,av,go_sem,r1,r2,r5]
   case AA=>
    exact iG
theorem aqI (xl xh yl yh:Int) (w:World) (hx1 : -2147483648≤xl) (hx2:xl≤2147483647) (hx3 : -2147483648≤xh) (hx4:xh≤2147483647) (hy1 : -2147483648≤yl) (hy2:yl≤2147483647) (hy3 : -2147483648≤yh) (hy4:yh≤2147483647) (nh pl:Int) (NH:Hid (min yh (-1)=nh)) (PL:Hid (max yl 1=pl)) (NU:Hid ((decide (xl≤-2147483648) && decide (-2147483648≤xh))=false)∨Hid ((decide (xl≤-2147483648) && decide (-2147483648≤xh))=true)∧Hid ((decide (yl≤-1) && decide (-1≤yh))=false)) (nz:(yl==0 && yh==0)=false) (n1 : -2147483648≤nh) (n2:nh≤2147483647) (n3 : -2147483648≤pl) (n4:pl≤2147483647) (q1:nh<yl) (q2:1≤pl) (q3:pl≤yh) (EP0:Hid (decide (nh<yl)=true)) (EP1:Hid (decide (yh<pl)=false)) :
  Calls Tryz.prog 145 #[.agg #[.int .i32 xl,.int .i32 xh],.agg #[.int .i32 yl,.int .i32 yh]] w fun e w'=>e=.returned (.agg #[.int .i32 (Au ([xl.tdiv pl,xl.tdiv yh,xh.tdiv pl,xh.tdiv yh])).1,.int .i32 (Au ([xl.tdiv pl,xl.tdiv yh,xh.tdiv pl,xh.tdiv yh])).2])∧Below w.heap.size w w':=by
 obtain⟨i0,hi,hz0,hz1,hz2⟩:=Dp Wi;have XH:=ix0;have XS:=ix1;have j0f:=ew;have j1f:=jV;have e2:=Ki;have yF:=Ju xl pl A0 A0;have ap1:=Ju xh pl A0 A0;have zyh:(yh==0)=false:=by simp;omega
 have atj:=Ju xl yh A0 A0;have aed:=Ju xh yh A0 A0;go_enter Zi,Zm;go_wp2_with fail;refine C7 A4 A4 ?_;repeat (go_big_quiet_step ((go_at_call 130;exact Calls.AW (Ed _ _))))
 refine BD ?_;rintro _ ⟨x1,rfl⟩;rcases NU with BX|⟨BX,BY⟩;all_goals
  go_wp2_with (first|(go_at_call 153;(first|(with_reducible refine (Calls.AW (Ie (N8 _ _ _ _) BX.out)).mono ?_)|(with_reducible refine (Calls.AW (Ie (N8 _ _ _ _) BY.out)).mono ?_));rintro e _ ⟨rfl,y,rfl⟩));obtain⟨W,hW,D⟩:=fu xl xh yl yh yl (min yh (-1)) (max yl 1) yh w y;rw [hW];clear hW;have hown:W.ownsRow w.heap.size 2 1 (.slice none 0 0) 0 []:=⟨rfl,.inl ⟨rfl,rfl⟩⟩;rw [NH.out,PL.out];refine GU 3 ?_;rw [BS];go_wp2_with fail;obtain⟨Wp0,q0,hW,hq,OU,RM⟩:=D.part hown (yl) (nh);rw [hW,hq];clear hW hq D hown;obtain⟨c1,c2,c3,c4,s1,s2⟩:=OU.cells;refine (Calls.ext (Ie (Ar _ _ _) EP0.out)).mono ?_;rintro e _ ⟨rfl,y,rfl⟩;obtain⟨We0,hW,MP,PZ⟩:=OU.ext RM y;rw [hW];clear hW OU RM;obtain⟨c1,c2,c3,c4,s1,s2⟩:=MP.cells;go_wp2_with fail;rw [BS];go_wp2_with fail;obtain⟨Wp1,q1,hW,hq,Nh,Rf⟩:=MP.part PZ (pl) (yh);rw [hW,hq];clear hW hq MP PZ;obtain⟨c1,c2,c3,c4,s1,s2⟩:=Nh.cells;refine (Calls.ext (Ie (Ar _ _ _) EP1.out)).mono ?_;rintro e _ ⟨rfl,y,rfl⟩;obtain⟨We1,hW,LC,PV⟩:=Nh.ext Rf y;rw [hW];clear hW Nh Rf;obtain⟨c1,c2,c3,c4,s1,s2⟩:=LC.cells;go_wp2_with fail;refine GU 3 ?_;rw [BS];go_wp2_with fail;refine GU 3 ?_;rw [BS];go_wp2_with (at_builtin;refine FH _ rfl (.tmp 65) (.tmp 69) 220 rfl w.heap.size 2 i0 (.int .i64 0) 1 8 FB hi hz0 hz1 hz2 rfl AP _ _ _ rfl (PV.alloc _) ⟨World.heap We1 |>.size,0,none⟩ 1 1 [.int .i64 (xl.tdiv pl)] rfl rfl (Du _ _ _) Bd CJ A0 (LC.Eo _) ?_;intro va0 Wa0 G6 hgrow _);have L9:=LC.grown (AH _) PV hgrow;obtain⟨c1,c2,c3,c4,s1,s2⟩:=L9.cells;clear hgrow PV LC;go_wp2_with fail;rw [BS];go_wp2_with (at_builtin;refine FH _ rfl (.tmp 65) (.tmp 69) 220 rfl w.heap.size 2 i0 (.int .i64 0) 1 8 FB hi hz0 hz1 hz2 rfl AP _ _ _ rfl (G6.alloc _) ⟨World.heap Wa0 |>.size,0,none⟩ 1 1 [.int .i64 (xl.tdiv yh)] rfl rfl (Du _ _ _) Bd CJ A0 (L9.Eo _) ?_;intro va1 Wa1 hown1 hgrow _);have Lj:=L9.grown (AH _) G6 hgrow;obtain⟨c1,c2,c3,c4,s1,s2⟩:=Lj.cells;clear hgrow G6 L9;go_wp2_with fail;rw [BS];go_wp2_with fail;rw [BS];go_wp2_with fail;refine GU 3 ?_;rw [BS];go_wp2_with (at_builtin;refine FH _ rfl (.tmp 65) (.tmp 69) 220 rfl w.heap.size 2 i0 (.int .i64 0) 1 8 FB hi hz0 hz1 hz2 rfl AP _ _ _ rfl (hown1.alloc _) ⟨World.heap Wa1 |>.size,0,none⟩ 1 1 [.int .i64 (xh.tdiv pl)] rfl rfl (Du _ _ _) Bd CJ A0 (Lj.Eo _) ?_;intro va2 Wa2 hown2 hgrow _);have La:=Lj.grown (AH _) hown1 hgrow;obtain⟨c1,c2,c3,c4,s1,s2⟩:=La.cells;clear hgrow hown1 Lj;go_wp2_with fail;rw [BS];go_wp2_with (at_builtin;refine FH _ rfl (.tmp 65) (.tmp 69) 220 rfl w.heap.size 2 i0 (.int .i64 0) 1 8 FB hi hz0 hz1 hz2 rfl AP _ _ _ rfl (hown2.alloc _) ⟨World.heap Wa2 |>.size,0,none⟩ 1 1 [.int .i64 (xh.tdiv yh)] rfl rfl (Du _ _ _) Bd CJ A0 (La.Eo _) ?_;intro va3 Wa3 Hh hgrow _);have Mh:=La.grown (AH _) hown2 hgrow;obtain⟨c1,c2,c3,c4,s1,s2⟩:=Mh.cells;clear hgrow hown2 La;go_wp2_with fail;rw [BS];go_wp2_with fail;rw [BS];go_wp2_with fail;rw [BS];go_wp2_with fail;obtain⟨g,cap,hv,hg,hc⟩:=VR (l:=[xl.tdiv pl,xl.tdiv yh,xh.tdiv pl,xh.tdiv yh]) rfl (by simpa using Hh) AR;rw [hv];obtain⟨r1,r2,r3,r4,r5⟩:=Mh.result;have kB:=Mh.below;clear hv Hh Mh;refine (Calls.ext (Td g cap [xl.tdiv pl,xl.tdiv yh,xh.tdiv pl,xh.tdiv yh] _ AR AR hg hc)).mono ?_;rintro e _ ⟨rfl,y5,rfl⟩;clear hc
  go_wp2
  all_goals
   refine Af (v:=.agg #[.int .i32 (Au [xl.tdiv pl,xl.tdiv yh,xh.tdiv pl,xh.tdiv yh]).1,.int .i32 (Au [xl.tdiv pl,xl.tdiv yh,xh.tdiv pl,xh.tdiv yh]).2]) ?hr rfl ⟨rfl,?AA⟩;case hr=>
    simp [results,av,go_sem,r1,r2,r5]
   case AA=>
    exact iG
theorem asQ (xl xh yl yh:Int) (w:World) (hx1 : -2147483648≤xl) (hx2:xl≤2147483647) (hx3 : -2147483648≤xh) (hx4:xh≤2147483647) (hy1 : -2147483648≤yl) (hy2:yl≤2147483647) (hy3 : -2147483648≤yh) (hy4:yh≤2147483647) (nh pl:Int) (NH:Hid (min yh (-1)=nh)) (PL:Hid (max yl 1=pl)) (NU:Hid ((decide (xl≤-2147483648) && decide (-2147483648≤xh))=false)∨Hid ((decide (xl≤-2147483648) && decide (-2147483648≤xh))=true)∧Hid ((decide (yl≤-1) && decide (-1≤yh))=false)) (nz:(yl==0 && yh==0)=false) (n1 : -2147483648≤nh) (n2:nh≤2147483647) (n3 : -2147483648≤pl) (n4:pl≤2147483647) (q1:yl≤nh) (q2:nh≤-1) (q3:1≤pl) (q4:pl≤yh) (EP0:Hid (decide (nh<yl)=false)) (EP1:Hid (decide (yh<pl)=false)) :
  Calls Tryz.prog 145 #[.agg #[.int .i32 xl,.int .i32 xh],.agg #[.int .i32 yl,.int .i32 yh]] w fun e w'=>e=.returned (.agg #[.int .i32 (Au ([xl.tdiv yl,xl.tdiv nh,xh.tdiv yl,xh.tdiv nh,xl.tdiv pl,xl.tdiv yh,xh.tdiv pl,xh.tdiv yh])).1,.int .i32 (Au ([xl.tdiv yl,xl.tdiv nh,xh.tdiv yl,xh.tdiv nh,xl.tdiv pl,xl.tdiv yh,xh.tdiv pl,xh.tdiv yh])).2])∧Below w.heap.size w w':=by
 obtain⟨i0,hi,hz0,hz1,hz2⟩:=Dp Wi;have XH:=ix0;have XS:=ix1;have j0f:=ew;have j1f:=jV;have e2:=Ki;have zyl:(yl==0)=false:=by simp;omega
 have af8:=Ju xl yl A0 A0;have ath:=Ju xh yl A0 A0;have ag4:=Ju xl nh A0 A0;have abE:=Ju xh nh A0 A0;have yF:=Ju xl pl A0 A0;have ap1:=Ju xh pl A0 A0;have zyh:(yh==0)=false:=by simp;omega
 have atj:=Ju xl yh A0 A0;have aed:=Ju xh yh A0 A0;go_enter Zi,Zm;go_wp2_with fail;refine C7 A4 A4 ?_;repeat (go_big_quiet_step ((go_at_call 130;exact Calls.AW (Ed _ _))))
 refine BD ?_;rintro _ ⟨x1,rfl⟩;rcases NU with BX|⟨BX,BY⟩;all_goals
  go_wp2_with (first|(go_at_call 153;(first|(with_reducible refine (Calls.AW (Ie (N8 _ _ _ _) BX.out)).mono ?_)|(with_reducible refine (Calls.AW (Ie (N8 _ _ _ _) BY.out)).mono ?_));rintro e _ ⟨rfl,y,rfl⟩));obtain⟨W,hW,D⟩:=fu xl xh yl yh yl (min yh (-1)) (max yl 1) yh w y;rw [hW];clear hW;have hown:W.ownsRow w.heap.size 2 1 (.slice none 0 0) 0 []:=⟨rfl,.inl ⟨rfl,rfl⟩⟩;rw [NH.out,PL.out];refine GU 3 ?_;rw [BS];go_wp2_with fail;obtain⟨Wp0,q0,hW,hq,OU,RM⟩:=D.part hown (yl) (nh);rw [hW,hq];clear hW hq D hown;obtain⟨c1,c2,c3,c4,s1,s2⟩:=OU.cells;refine (Calls.ext (Ie (Ar _ _ _) EP0.out)).mono ?_;rintro e _ ⟨rfl,y,rfl⟩;obtain⟨We0,hW,MP,PZ⟩:=OU.ext RM y;rw [hW];clear hW OU RM;obtain⟨c1,c2,c3,c4,s1,s2⟩:=MP.cells;go_wp2_with fail;refine GU 3 ?_;rw [BS];go_wp2_with fail;refine GU 3 ?_;rw [BS];go_wp2_with (at_builtin;refine FH _ rfl (.tmp 65) (.tmp 69) 220 rfl w.heap.size 2 i0 (.int .i64 0) 1 8 FB hi hz0 hz1 hz2 rfl AP _ _ _ rfl (PZ.alloc _) ⟨World.heap We0 |>.size,0,none⟩ 1 1 [.int .i64 (xl.tdiv yl)] rfl rfl (Du _ _ _) Bd CJ A0 (MP.Eo _) ?_;intro va0 Wa0 G6 hgrow _);have L9:=MP.grown (AH _) PZ hgrow;obtain⟨c1,c2,c3,c4,s1,s2⟩:=L9.cells;clear hgrow PZ MP;go_wp2_with fail;rw [BS];go_wp2_with (at_builtin;refine FH _ rfl (.tmp 65) (.tmp 69) 220 rfl w.heap.size 2 i0 (.int .i64 0) 1 8 FB hi hz0 hz1 hz2 rfl AP _ _ _ rfl (G6.alloc _) ⟨World.heap Wa0 |>.size,0,none⟩ 1 1 [.int .i64 (xl.tdiv nh)] rfl rfl (Du _ _ _) Bd CJ A0 (L9.Eo _) ?_;intro va1 Wa1 hown1 hgrow _);have Lj:=L9.grown (AH _) G6 hgrow;obtain⟨c1,c2,c3,c4,s1,s2⟩:=Lj.cells;clear hgrow G6 L9;go_wp2_with fail;rw [BS];go_wp2_with fail;rw [BS];go_wp2_with fail;refine GU 3 ?_;rw [BS];go_wp2_with (at_builtin;refine FH _ rfl (.tmp 65) (.tmp 69) 220 rfl w.heap.size 2 i0 (.int .i64 0) 1 8 FB hi hz0 hz1 hz2 rfl AP _ _ _ rfl (hown1.alloc _) ⟨World.heap Wa1 |>.size,0,none⟩ 1 1 [.int .i64 (xh.tdiv yl)] rfl rfl (Du _ _ _) Bd CJ A0 (Lj.Eo _) ?_;intro va2 Wa2 hown2 hgrow _);have La:=Lj.grown (AH _) hown1 hgrow;obtain⟨c1,c2,c3,c4,s1,s2⟩:=La.cells;clear hgrow hown1 Lj;go_wp2_with fail;rw [BS];go_wp2_with (at_builtin;refine FH _ rfl (.tmp 65) (.tmp 69) 220 rfl w.heap.size 2 i0 (.int .i64 0) 1 8 FB hi hz0 hz1 hz2 rfl AP _ _ _ rfl (hown2.alloc _) ⟨World.heap Wa2 |>.size,0,none⟩ 1 1 [.int .i64 (xh.tdiv nh)] rfl rfl (Du _ _ _) Bd CJ A0 (La.Eo _) ?_;intro va3 Wa3 Hh hgrow _);have Mh:=La.grown (AH _) hown2 hgrow;obtain⟨c1,c2,c3,c4,s1,s2⟩:=Mh.cells;clear hgrow hown2 La;go_wp2_with fail;rw [BS];go_wp2_with fail;rw [BS];go_wp2_with fail;rw [BS];go_wp2_with fail;obtain⟨Wp1,q1,hW,hq,Nh,Rf⟩:=Mh.part Hh (pl) (yh);rw [hW,hq];clear hW hq Mh Hh;obtain⟨c1,c2,c3,c4,s1,s2⟩:=Nh.cells;refine (Calls.ext (Ie (Ar _ _ _) EP1.out)).mono ?_;rintro e _ ⟨rfl,y,rfl⟩;obtain⟨We1,hW,LC,PV⟩:=Nh.ext Rf y;rw [hW];clear hW Nh Rf;obtain⟨c1,c2,c3,c4,s1,s2⟩:=LC.cells;go_wp2_with fail;refine GU 3 ?_;rw [BS];go_wp2_with fail;refine GU 3 ?_;rw [BS];go_wp2_with (at_builtin;refine FH _ rfl (.tmp 65) (.tmp 69) 220 rfl w.heap.size 2 i0 (.int .i64 0) 1 8 FB hi hz0 hz1 hz2 rfl AP _ _ _ rfl (PV.alloc _) ⟨World.heap We1 |>.size,0,none⟩ 1 1 [.int .i64 (xl.tdiv pl)] rfl rfl (Du _ _ _) Bd CJ A0 (LC.Eo _) ?_;intro va4 Wa4 MW hgrow _);have Da4:=LC.grown (AH _) PV hgrow;obtain⟨c1,c2,c3,c4,s1,s2⟩:=Da4.cells;clear hgrow PV LC;go_wp2_with fail;rw [BS];go_wp2_with (at_builtin;refine FH _ rfl (.tmp 65) (.tmp 69) 220 rfl w.heap.size 2 i0 (.int .i64 0) 1 8 FB hi hz0 hz1 hz2 rfl AP _ _ _ rfl (MW.alloc _) ⟨World.heap Wa4 |>.size,0,none⟩ 1 1 [.int .i64 (xl.tdiv yh)] rfl rfl (Du _ _ _) Bd CJ A0 (Da4.Eo _) ?_;intro va5 Wa5 jT hgrow _);have Da5:=Da4.grown (AH _) MW hgrow;obtain⟨c1,c2,c3,c4,s1,s2⟩:=Da5.cells;clear hgrow MW Da4;go_wp2_with fail;rw [BS];go_wp2_with fail;rw [BS];go_wp2_with fail;refine GU 3 ?_;rw [BS];go_wp2_with (at_builtin;refine FH _ rfl (.tmp 65) (.tmp 69) 220 rfl w.heap.size 2 i0 (.int .i64 0) 1 8 FB hi hz0 hz1 hz2 rfl AP _ _ _ rfl (jT.alloc _) ⟨World.heap Wa5 |>.size,0,none⟩ 1 1 [.int .i64 (xh.tdiv pl)] rfl rfl (Du _ _ _) Bd CJ A0 (Da5.Eo _) ?_;intro va6 Wa6 iE hgrow _);have Da6:=Da5.grown (AH _) jT hgrow;obtain⟨c1,c2,c3,c4,s1,s2⟩:=Da6.cells;clear hgrow jT Da5;go_wp2_with fail;rw [BS];go_wp2_with (at_builtin;refine FH _ rfl (.tmp 65) (.tmp 69) 220 rfl w.heap.size 2 i0 (.int .i64 0) 1 8 FB hi hz0 hz1 hz2 rfl AP _ _ _ rfl (iE.alloc _) ⟨World.heap Wa6 |>.size,0,none⟩ 1 1 [.int .i64 (xh.tdiv yh)] rfl rfl (Du _ _ _) Bd CJ A0 (Da6.Eo _) ?_;intro va7 Wa7 ud hgrow _);have Da7:=Da6.grown (AH _) iE hgrow;obtain⟨c1,c2,c3,c4,s1,s2⟩:=Da7.cells;clear hgrow iE Da6;go_wp2_with fail;rw [BS];go_wp2_with fail;rw [BS];go_wp2_with fail;rw [BS];go_wp2_with fail;obtain⟨g,cap,hv,hg,hc⟩:=VR (l:=[xl.tdiv yl,xl.tdiv nh,xh.tdiv yl,xh.tdiv nh,xl.tdiv pl,xl.tdiv yh,xh.tdiv pl,xh.tdiv yh]) rfl (by simpa using ud) AR;rw [hv];obtain⟨r1,r2,r3,r4,r5⟩:=Da7.result;have kB:=Da7.below;clear hv ud Da7;refine (Calls.ext (Td g cap [xl.tdiv yl,xl.tdiv nh,xh.tdiv yl,xh.tdiv nh,xl.tdiv pl,xl.tdiv yh,xh.tdiv pl,xh.tdiv yh] _ AR AR hg hc)).mono ?_;rintro e _ ⟨rfl,y5,rfl⟩;clear hc
  go_wp2
  all_goals
   refine Af (v:=.agg #[.int .i32 (Au [xl.tdiv yl,xl.tdiv nh,xh.tdiv yl,xh.tdiv nh,xl.tdiv pl,xl.tdiv yh,xh.tdiv pl,xh.tdiv yh]).1,.int .i32 (Au [xl.tdiv yl,xl.tdiv nh,xh.tdiv yl,xh.tdiv nh,xl.tdiv pl,xl.tdiv yh,xh.tdiv pl,xh.tdiv yh]).2]) ?hr rfl ⟨rfl,?AA⟩;case hr=>
    simp [results,av,go_sem,r1,r2,r5]
   case AA=>
    exact iG
theorem yN (xl xh yl yh:Int) (w:World) (nz:(yl==0 && yh==0)=true) (BX:True) (BY:True) :
  Calls Tryz.prog 145 #[.agg #[.int .i32 xl,.int .i32 xh],.agg #[.int .i32 yl,.int .i32 yh]] w fun e w'=>e=.returned (.agg #[.int .i32 (1),.int .i32 (0)])∧Below w.heap.size w w':=by
 have e2:=Ki;go_enter Zi,Zm;go_wp2_with fail;refine C7 A4 A4 ?_;repeat (go_big_quiet_step ((go_at_call 130;exact Calls.AW (Ed _ _))))
 refine BD ?_;rintro _ ⟨x1,rfl⟩;go_wp2_with (first|(go_at_call 128;((first|(with_reducible refine (Calls.AW (C9 _)).mono ?_)|(refine (Calls.ext (C9 _)).mono ?_));rintro e _ ⟨rfl,y,rfl⟩))|(go_at_call 133;((first|(with_reducible refine (Calls.AW (Fa _)).mono ?_)|(refine (Calls.ext (Fa _)).mono ?_));rintro e _ ⟨rfl,y,rfl⟩))|(go_at_call 153;(first|(with_reducible refine (Calls.AW (Ie (N8 _ _ _ _) BX.out)).mono ?_)|(with_reducible refine (Calls.AW (Ie (N8 _ _ _ _) BY.out)).mono ?_));rintro e _ ⟨rfl,y,rfl⟩));all_goals
  refine Af (v:=.agg #[.int .i32 (1),.int .i32 (0)]) ?hr rfl ⟨rfl,?AA⟩;case hr=>
   simp [results,av,go_sem]
  case AA=>
   exact Ia
theorem aad (xl xh yl yh:Int) (w:World) (nz:(yl==0 && yh==0)=false) (BX:Hid ((decide (xl≤-2147483648) && decide (-2147483648≤xh))=true)) (BY:Hid ((decide (yl≤-1) && decide (-1≤yh))=true)) :
  Calls Tryz.prog 145 #[.agg #[.int .i32 xl,.int .i32 xh],.agg #[.int .i32 yl,.int .i32 yh]] w fun e w'=>e=.returned (.agg #[.int .i32 (-2147483648),.int .i32 (2147483647)])∧Below w.heap.size w w':=by
 have e2:=Ki;go_enter Zi,Zm;go_wp2_with fail;refine C7 A4 A4 ?_;repeat (go_big_quiet_step ((go_at_call 130;exact Calls.AW (Ed _ _))))
 refine BD ?_;rintro _ ⟨x1,rfl⟩;go_wp2_with (first|(go_at_call 128;((first|(with_reducible refine (Calls.AW (C9 _)).mono ?_)|(refine (Calls.ext (C9 _)).mono ?_));rintro e _ ⟨rfl,y,rfl⟩))|(go_at_call 133;((first|(with_reducible refine (Calls.AW (Fa _)).mono ?_)|(refine (Calls.ext (Fa _)).mono ?_));rintro e _ ⟨rfl,y,rfl⟩))|(go_at_call 153;(first|(with_reducible refine (Calls.AW (Ie (N8 _ _ _ _) BX.out)).mono ?_)|(with_reducible refine (Calls.AW (Ie (N8 _ _ _ _) BY.out)).mono ?_));rintro e _ ⟨rfl,y,rfl⟩));all_goals
  refine Af (v:=.agg #[.int .i32 (-2147483648),.int .i32 (2147483647)]) ?hr rfl ⟨rfl,?AA⟩;case hr=>
   simp [results,av,go_sem]
  case AA=>
   exact Ia
theorem apf (xl xh yl yh:Int) (w:World) (hx1 : -2147483648≤xl) (hx2:xl≤2147483647) (hx3 : -2147483648≤xh) (hx4:xh≤2147483647) (hy1 : -2147483648≤yl) (hy2:yl≤2147483647) (hy3 : -2147483648≤yh) (hy4:yh≤2147483647) (he:xl≤xh) (he':yl≤yh) :
  Calls Tryz.prog 145 #[.agg #[.int .i32 xl,.int .i32 xh],.agg #[.int .i32 yl,.int .i32 yh]] w fun e w'=>e=.returned (.agg #[.int .i32 (OE (xl,xh) (yl,yh)).1,.int .i32 (OE (xl,xh) (yl,yh)).2])∧Below w.heap.size w w':=by
 by_cases z:yl=0∧yh=0
 ·refine (yN xl xh yl yh w (by simpa using z) trivial trivial).mono fun e' w' ⟨q,hb⟩=>⟨q.trans ?_,hb⟩
  rw [OE,A9 z]
 ·have nz:(yl==0 && yh==0)=false:=by simpa using z
  have nz':yl<0∨0<yh:=by omega
  by_cases b:(xl≤-2147483648∧-2147483648≤xh)∧(yl≤-1∧-1≤yh)
  ·refine (aad xl xh yl yh w nz (A3 (by simpa using b.1)) (A3 (by simpa using b.2))).mono fun e' w' ⟨q,hb⟩=>⟨q.trans ?_,hb⟩
   rw [OE,A6 z,A9 b]
  ·have ev:OE (xl,xh) (yl,yh)=Au (U6 (xl,xh) (yl,yh)):=by rw [OE,A6 z,A6 b]
   rw [ev];have NU:Hid ((decide (xl≤-2147483648) && decide (-2147483648≤xh))=false)∨Hid ((decide (xl≤-2147483648) && decide (-2147483648≤xh))=true)∧Hid ((decide (yl≤-1) && decide (-1≤yh))=false):=by
    by_cases bx:xl≤-2147483648∧-2147483648≤xh
    ·have by':¬(yl≤-1∧-1≤yh):=fun h=>b ⟨bx,h⟩
     exact .inr ⟨A3 (by simpa using bx),A3 (by simpa using by')⟩
    ·exact .inl (A3 (by simpa using bx))
   by_cases c1:yl<0
   ·by_cases c2:0<yh
    ·refine (asQ xl xh yl yh w hx1 hx2 hx3 hx4 hy1 hy2 hy3 hy4 (min yh (-1)) (max yl 1) (A3 rfl) (A3 rfl) NU nz A0 A0 A0 A0 A0 A0 A0 A0 (A3 JP) (A3 JP)).mono fun e' w' ⟨q,hb⟩=>⟨q.trans (jN (congrArg Au ?_)),hb⟩
     simp [U6,divC,c1,c2]
    ·refine (xJ xl xh yl yh w hx1 hx2 hx3 hx4 hy1 hy2 hy3 hy4 (min yh (-1)) (max yl 1) (A3 rfl) (A3 rfl) NU nz A0 A0 A0 A0 A0 A0 A0 (A3 JP) (A3 JP)).mono fun e' w' ⟨q,hb⟩=>⟨q.trans (jN (congrArg Au ?_)),hb⟩
     simp [U6,divC,c1,c2]
   ·have c2:0<yh:=by omega
    refine (aqI xl xh yl yh w hx1 hx2 hx3 hx4 hy1 hy2 hy3 hy4 (min yh (-1)) (max yl 1) (A3 rfl) (A3 rfl) NU nz A0 A0 A0 A0 A0 A0 A0 (A3 JP) (A3 JP)).mono fun e' w' ⟨q,hb⟩=>⟨q.trans (jN (congrArg Au ?_)),hb⟩;simp [U6,divC,c1,c2]
def Ep (op:Int) (x y:Int×Int):Int×Int:=
 if op=6 then Au [x.1+y.1,x.1+y.2,x.2+y.1,x.2+y.2] else if op=7 then Au [x.1 - y.1,x.1 - y.2,x.2 - y.1,x.2 - y.2]
 else if op=8 then Au [x.1*y.1,x.1*y.2,x.2*y.1,x.2*y.2] else if op=9 then OE x y else if op=10 then FE x y
 else if op≤13 then Jd op x y else if op≤15 then Kh op x y else if op≤21 then OJ op x y else Q8 op x y
theorem ze (op xl xh yl yh:Int) (w:World) (hx1 : -2147483648≤xl) (hx2:xl≤2147483647) (hx3 : -2147483648≤xh) (hx4:xh≤2147483647) (hy1 : -2147483648≤yl) (hy2:yl≤2147483647) (hy3 : -2147483648≤yh) (hy4:yh≤2147483647) (hop:op=9∨(11≤op∧op≤23)) (EE:xl≤xh) (FC:yl≤yh) (hs:¬(xl=xh∧yl=yh)) :
  Calls Tryz.prog 131 #[.int .u8 op,.agg #[.int .i32 xl,.int .i32 xh],.agg #[.int .i32 yl,.int .i32 yh]] w fun e w'=>e=.returned (.agg #[.int .i32 (Ep op (xl,xh) (yl,yh)).1,.int .i32 (Ep op (xl,xh) (yl,yh)).2])∧Below w.heap.size w w':=by
 obtain⟨g1,hg1⟩:∃g,(Ep op (xl,xh) (yl,yh)).1=g:=⟨_,rfl⟩;obtain⟨g2,hg2⟩:∃g,(Ep op (xl,xh) (yl,yh)).2=g:=⟨_,rfl⟩;have HD:=A3 (fun (h:op=9) (W:World)=>show Calls Tryz.prog 145 #[.agg #[.int .i32 xl,.int .i32 xh],.agg #[.int .i32 yl,.int .i32 yh]] W fun e w'=>e=.returned (.agg #[.int .i32 g1,.int .i32 g2])∧Below W.heap.size W w' by
  have hc:=apf xl xh yl yh W hx1 hx2 hx3 hx4 hy1 hy2 hy3 hy4 EE FC;rw [show OE (xl,xh) (yl,yh)=Ep op (xl,xh) (yl,yh) by unfold Ep;rw [A6 A0,A6 A0,A6 A0,A9 h],hg1,hg2] at hc
  exact hc)
 have HB:=A3 (fun (h:11≤op∧op≤13) (W:World)=>show Calls Tryz.prog 147 #[.int .u8 op,.agg #[.int .i32 xl,.int .i32 xh],.agg #[.int .i32 yl,.int .i32 yh]] W fun e w'=>e=.returned (.agg #[.int .i32 g1,.int .i32 g2])∧Below W.heap.size W w' by
  have hc:=aqM op xl xh yl yh W hx3 hx4 hy3 hy4 h.1 h.2 EE FC;rw [show Jd op (xl,xh) (yl,yh)=Ep op (xl,xh) (yl,yh) by unfold Ep;rw [A6 A0,A6 A0,A6 A0,A6 A0,A6 A0,A9 A0],hg1,hg2] at hc
  exact hc)
 have HS:=A3 (fun (h:14≤op∧op≤15) (W:World)=>show Calls Tryz.prog 148 #[.int .u8 op,.agg #[.int .i32 xl,.int .i32 xh],.agg #[.int .i32 yl,.int .i32 yh]] W fun e w'=>e=.returned (.agg #[.int .i32 g1,.int .i32 g2])∧Below W.heap.size W w' by
  have hc:=arA op xl xh yl yh W hx1 hx2 hx3 hx4 hy1 hy2 h.1 h.2;rw [show Kh op (xl,xh) (yl,yh)=Ep op (xl,xh) (yl,yh) by unfold Ep;rw [A6 A0,A6 A0,A6 A0,A6 A0,A6 A0,A6 A0,A9 A0],hg1,hg2] at hc
  exact hc)
 have HC:=A3 (fun (h:16≤op∧op≤21) (W:World)=>show Calls Tryz.prog 150 #[.int .u8 op,.agg #[.int .i32 xl,.int .i32 xh],.agg #[.int .i32 yl,.int .i32 yh]] W fun e w'=>e=.returned (.agg #[.int .i32 g1,.int .i32 g2])∧Below W.heap.size W w' by
  have hc:=atU op xl xh yl yh W h.1 h.2;rw [show OJ op (xl,xh) (yl,yh)=Ep op (xl,xh) (yl,yh) by unfold Ep;rw [A6 A0,A6 A0,A6 A0,A6 A0,A6 A0,A6 A0,A6 A0,A9 A0],hg1,hg2] at hc
  exact hc)
 have HL:=A3 (fun (h:22≤op∧op≤23) (W:World)=>show Calls Tryz.prog 149 #[.int .u8 op,.agg #[.int .i32 xl,.int .i32 xh],.agg #[.int .i32 yl,.int .i32 yh]] W fun e w'=>e=.returned (.agg #[.int .i32 g1,.int .i32 g2])∧Below W.heap.size W w' by
  have hc:=apG op xl xh yl yh W h.1 h.2;rw [show Q8 op (xl,xh) (yl,yh)=Ep op (xl,xh) (yl,yh) by unfold Ep;rw [A6 A0,A6 A0,A6 A0,A6 A0,A6 A0,A6 A0,A6 A0,A6 A0],hg1,hg2] at hc
  exact hc)
 have⟨JF,Q9⟩:=AQ hg1 hg2;have d1:decide (xh<xl)=false:=by simp;omega
 have d2:decide (yh<yl)=false:=by simp;omega
 have hq:(xl==xh)=false∨((xl==xh)=true∧(yl==yh)=false):=by simp;omega
 have h13:op=9∨op=11∨op=12∨op=13∨op=14∨op=15∨op=16∨op=17∨op=18∨op=19∨op=20∨op=21∨op=22∨op=23:=by omega
 clear hg1 hg2 EE FC hs hop;rcases h13 with rfl|rfl|rfl|rfl|rfl|rfl|rfl|rfl|rfl|rfl|rfl|rfl|rfl|rfl<;>rcases hq with hq|⟨hq,hq2⟩;all_goals
  go_enter LI,LD;go_wp2_with (first|(go_at_call 127;((first|(with_reducible refine (Calls.AW (Ar _ _ _)).mono ?_)|(refine (Calls.ext (Ar _ _ _)).mono ?_));rintro e _ ⟨rfl,y,rfl⟩))|(go_at_call 143;((first|(with_reducible refine (Calls.AW (Dt _ _ _)).mono ?_)|(refine (Calls.ext (Dt _ _ _)).mono ?_));rintro e _ ⟨rfl,y,rfl⟩))|(go_at_call 145;((first|(with_reducible refine (Calls.AW (HD.out AP _)).mono ?_)|(refine (Calls.ext (HD.out AP _)).mono ?_));rintro e _ ⟨rfl,y,rfl⟩))|(go_at_call 147;((first|(with_reducible refine (Calls.AW (HB.out AP _)).mono ?_)|(refine (Calls.ext (HB.out AP _)).mono ?_));rintro e _ ⟨rfl,y,rfl⟩))|(go_at_call 148;((first|(with_reducible refine (Calls.AW (HS.out AP _)).mono ?_)|(refine (Calls.ext (HS.out AP _)).mono ?_));rintro e _ ⟨rfl,y,rfl⟩))|(go_at_call 150;((first|(with_reducible refine (Calls.AW (HC.out AP _)).mono ?_)|(refine (Calls.ext (HC.out AP _)).mono ?_));rintro e _ ⟨rfl,y,rfl⟩))|(go_at_call 149;((first|(with_reducible refine (Calls.AW (HL.out AP _)).mono ?_)|(refine (Calls.ext (HL.out AP _)).mono ?_));rintro e _ ⟨rfl,y,rfl⟩)));all_goals
   refine Af (v:=.agg #[.int .i32 g1,.int .i32 g2]) ?hr rfl ⟨by rw [JF.out,Q9.out],?AA⟩;case hr=>
    simp [results,Le,go_sem]
   case AA=>
    exact Ia
theorem asO (op xl xh yl yh:Int) (w:World) (h:op<6) :
  Calls Tryz.prog 131 #[.int .u8 op,.agg #[.int .i32 xl,.int .i32 xh],.agg #[.int .i32 yl,.int .i32 yh]] w fun e w'=>e=.returned (.agg #[.int .i32 (-2147483648),.int .i32 2147483647])∧Below w.heap.size w w':=by
 go_enter LI,LD;go_wp2_with (first|(go_at_call 133;((first|(with_reducible refine (Calls.AW (Fa _)).mono ?_)|(refine (Calls.ext (Fa _)).mono ?_));rintro e _ ⟨rfl,y,rfl⟩)));all_goals
  refine Af (v:=.agg #[.int .i32 (-2147483648),.int .i32 2147483647]) ?hr rfl ⟨rfl,?AA⟩;case hr=>
   simp [results,Le,go_sem]
  case AA=>
   exact Ia
theorem yu (op xl xh yl yh:Int) (w:World) (h:23<op) :
  Calls Tryz.prog 131 #[.int .u8 op,.agg #[.int .i32 xl,.int .i32 xh],.agg #[.int .i32 yl,.int .i32 yh]] w fun e w'=>e=.returned (.agg #[.int .i32 (-2147483648),.int .i32 2147483647])∧Below w.heap.size w w':=by
 have d1:decide (op<6)=false:=by simp;omega
 go_enter LI,LD;go_wp2_with (first|(go_at_call 133;((first|(with_reducible refine (Calls.AW (Fa _)).mono ?_)|(refine (Calls.ext (Fa _)).mono ?_));rintro e _ ⟨rfl,y,rfl⟩)));all_goals
  refine Af (v:=.agg #[.int .i32 (-2147483648),.int .i32 2147483647]) ?hr rfl ⟨rfl,?AA⟩;case hr=>
   simp [results,Le,go_sem]
  case AA=>
   exact Ia
theorem aar (op xl xh yl yh:Int) (w:World) (h1:6≤op) (h2:op≤23) (h:xh<xl) :
  Calls Tryz.prog 131 #[.int .u8 op,.agg #[.int .i32 xl,.int .i32 xh],.agg #[.int .i32 yl,.int .i32 yh]] w fun e w'=>e=.returned (.agg #[.int .i32 1,.int .i32 0])∧Below w.heap.size w w':=by
 have d1:decide (op<6)=false:=by simp;omega
 have d2:decide (23<op)=false:=by simp;omega
 go_enter LI,LD;go_wp2_with (first|(go_at_call 127;((first|(with_reducible refine (Calls.AW (Ar _ _ _)).mono ?_)|(refine (Calls.ext (Ar _ _ _)).mono ?_));rintro e _ ⟨rfl,y,rfl⟩))|(go_at_call 128;((first|(with_reducible refine (Calls.AW (C9 _)).mono ?_)|(refine (Calls.ext (C9 _)).mono ?_));rintro e _ ⟨rfl,y,rfl⟩)));all_goals
  refine Af (v:=.agg #[.int .i32 1,.int .i32 0]) ?hr rfl ⟨rfl,?AA⟩;case hr=>
   simp [results,Le,go_sem]
  case AA=>
   exact Ia
theorem zw (op xl xh yl yh:Int) (w:World) (h1:6≤op) (h2:op≤23) (h:¬xh<xl) (h':yh<yl) :
  Calls Tryz.prog 131 #[.int .u8 op,.agg #[.int .i32 xl,.int .i32 xh],.agg #[.int .i32 yl,.int .i32 yh]] w fun e w'=>e=.returned (.agg #[.int .i32 1,.int .i32 0])∧Below w.heap.size w w':=by
 have d1:decide (op<6)=false:=by simp;omega
 have d2:decide (23<op)=false:=by simp;omega
 have d3:decide (xh<xl)=false:=by simpa using h
 go_enter LI,LD;go_wp2_with (first|(go_at_call 127;((first|(with_reducible refine (Calls.AW (Ar _ _ _)).mono ?_)|(refine (Calls.ext (Ar _ _ _)).mono ?_));rintro e _ ⟨rfl,y,rfl⟩))|(go_at_call 128;((first|(with_reducible refine (Calls.AW (C9 _)).mono ?_)|(refine (Calls.ext (C9 _)).mono ?_));rintro e _ ⟨rfl,y,rfl⟩)));all_goals
  refine Af (v:=.agg #[.int .i32 1,.int .i32 0]) ?hr rfl ⟨rfl,?AA⟩;case hr=>
   simp [results,Le,go_sem]
  case AA=>
   exact Ia
theorem apP (op n m:Int) (w:World) (h1:6≤op) (h2:op≤23) (hn:AL n) (hm:AL m) (we0:(we op m != 0)=false) :
  Calls Tryz.prog 131 #[.int .u8 op,.agg #[.int .i32 n,.int .i32 n],.agg #[.int .i32 m,.int .i32 m]] w fun e w'=>e=.returned (.agg #[.int .i32 (wv op n m),.int .i32 (wv op n m)])∧Below w.heap.size w w':=by
 have d1:decide (op<6)=false:=by simp;omega
 have d2:decide (23<op)=false:=by simp;omega
 go_enter LI,LD;go_wp2_with (first|(go_at_call 127;((first|(with_reducible refine (Calls.AW (Ar _ _ _)).mono ?_)|(refine (Calls.ext (Ar _ _ _)).mono ?_));rintro e _ ⟨rfl,y,rfl⟩))|(go_at_call 143;((first|(with_reducible refine (Calls.AW (Dt _ _ _)).mono ?_)|(refine (Calls.ext (Dt _ _ _)).mono ?_));rintro e _ ⟨rfl,y,rfl⟩))|(go_at_call 128;((first|(with_reducible refine (Calls.AW (C9 _)).mono ?_)|(refine (Calls.ext (C9 _)).mono ?_));rintro e _ ⟨rfl,y,rfl⟩))|(go_at_call 130;((first|(with_reducible refine (Calls.AW (Ed _ _)).mono ?_)|(refine (Calls.ext (Ed _ _)).mono ?_));rintro e _ ⟨rfl,y,rfl⟩))|(go_at_call 95;refine (Calls.Tu (fE _ _ _ _ hn hm)).mono ?_;rintro e _ ⟨rfl,y,rfl⟩));all_goals
  refine Af (v:=.agg #[.int .i32 (wv op n m),.int .i32 (wv op n m)]) ?hr rfl ⟨rfl,?AA⟩;case hr=>
   simp [results,Le,go_sem]
  case AA=>
   exact Ia
theorem apr (op n m:Int) (w:World) (h1:6≤op) (h2:op≤23) (hn:AL n) (hm:AL m) (we0:(we op m != 0)=true) :
  Calls Tryz.prog 131 #[.int .u8 op,.agg #[.int .i32 n,.int .i32 n],.agg #[.int .i32 m,.int .i32 m]] w fun e w'=>e=.returned (.agg #[.int .i32 1,.int .i32 0])∧Below w.heap.size w w':=by
 have d1:decide (op<6)=false:=by simp;omega
 have d2:decide (23<op)=false:=by simp;omega
 go_enter LI,LD;go_wp2_with (first|(go_at_call 127;((first|(with_reducible refine (Calls.AW (Ar _ _ _)).mono ?_)|(refine (Calls.ext (Ar _ _ _)).mono ?_));rintro e _ ⟨rfl,y,rfl⟩))|(go_at_call 143;((first|(with_reducible refine (Calls.AW (Dt _ _ _)).mono ?_)|(refine (Calls.ext (Dt _ _ _)).mono ?_));rintro e _ ⟨rfl,y,rfl⟩))|(go_at_call 128;((first|(with_reducible refine (Calls.AW (C9 _)).mono ?_)|(refine (Calls.ext (C9 _)).mono ?_));rintro e _ ⟨rfl,y,rfl⟩))|(go_at_call 130;((first|(with_reducible refine (Calls.AW (Ed _ _)).mono ?_)|(refine (Calls.ext (Ed _ _)).mono ?_));rintro e _ ⟨rfl,y,rfl⟩))|(go_at_call 95;refine (Calls.Tu (fE _ _ _ _ hn hm)).mono ?_;rintro e _ ⟨rfl,y,rfl⟩));all_goals
  refine Af (v:=.agg #[.int .i32 1,.int .i32 0]) ?hr rfl ⟨rfl,?AA⟩;case hr=>
   simp [results,Le,go_sem]
  case AA=>
   exact Ia
def Dr (op:Int) (x y:Int×Int):Int×Int:=
 if op<6∨23<op then (-2147483648,2147483647) else if x.2<x.1∨y.2<y.1 then (1,0)
 else if x.1=x.2∧y.1=y.2 then (if we op y.1=0 then (wv op x.1 y.1,wv op x.1 y.1) else (1,0))
 else Ep op x y
theorem gK (op xl xh yl yh:Int) (w:World) (hx1 : -2147483648≤xl) (hx2:xl≤2147483647) (hx3 : -2147483648≤xh) (hx4:xh≤2147483647) (hy1 : -2147483648≤yl) (hy2:yl≤2147483647) (hy3 : -2147483648≤yh) (hy4:yh≤2147483647) :
  Calls Tryz.prog 131 #[.int .u8 op,.agg #[.int .i32 xl,.int .i32 xh],.agg #[.int .i32 yl,.int .i32 yh]] w fun e w'=>e=.returned (.agg #[.int .i32 (Dr op (xl,xh) (yl,yh)).1,.int .i32 (Dr op (xl,xh) (yl,yh)).2])∧Below w.heap.size w w':=by
 by_cases o1:op<6
 ·refine (asO op xl xh yl yh w o1).mono fun e w' ⟨q,hb⟩=>⟨q.trans ?_,hb⟩
  rw [Dr,A9 (.inl o1)]
 by_cases o2:23<op
 ·refine (yu op xl xh yl yh w o2).mono fun e w' ⟨q,hb⟩=>⟨q.trans ?_,hb⟩
  rw [Dr,A9 (.inr o2)]
 have no:¬(op<6∨23<op):=by omega
 by_cases e1:xh<xl
 ·refine (aar op xl xh yl yh w A0 A0 e1).mono fun e w' ⟨q,hb⟩=>⟨q.trans ?_,hb⟩
  rw [Dr,A6 no,A9 (.inl e1)]
 by_cases e2:yh<yl
 ·refine (zw op xl xh yl yh w A0 A0 e1 e2).mono fun e w' ⟨q,hb⟩=>⟨q.trans ?_,hb⟩
  rw [Dr,A6 no,A9 (.inr e2)]
 have ne:¬(xh<xl∨yh<yl):=by omega
 by_cases s:xl=xh∧yl=yh
 ·obtain⟨rfl,rfl⟩:=s
  by_cases k:we op yl=0
  ·refine (apP op xl yl w A0 A0 ⟨hx1,hx2⟩ ⟨hy1,hy2⟩ (by simpa using k)).mono fun e w' ⟨q,hb⟩=>⟨q.trans ?_,hb⟩
   rw [Dr,A6 no,A6 ne,A9 ⟨rfl,rfl⟩,A9 k]
  ·refine (apr op xl yl w A0 A0 ⟨hx1,hx2⟩ ⟨hy1,hy2⟩ (by simpa using k)).mono fun e w' ⟨q,hb⟩=>⟨q.trans ?_,hb⟩
   rw [Dr,A6 no,A6 ne,A9 ⟨rfl,rfl⟩,A6 k]
 ·have ev:Dr op (xl,xh) (yl,yh)=Ep op (xl,xh) (yl,yh):=by rw [Dr,A6 no,A6 ne,A6 s]
  rw [ev];by_cases hm:op=9∨(11≤op∧op≤23)
  ·exact ze op xl xh yl yh w hx1 hx2 hx3 hx4 hy1 hy2 hy3 hy4 hm A0 A0 s
  have h4:op=6∨op=7∨op=8∨op=10:=by omega
  rcases h4 with rfl|rfl|rfl|rfl
  ·exact alv xl xh yl yh w hx1 hx2 hx3 hx4 hy1 hy2 hy3 hy4 A0 A0 s
  ·exact abq xl xh yl yh w hx1 hx2 hx3 hx4 hy1 hy2 hy3 hy4 A0 A0 s
  ·exact as0 xl xh yl yh w hx1 hx2 hx3 hx4 hy1 hy2 hy3 hy4 A0 A0 s
  ·exact arU xl xh yl yh w hx1 hx2 hx3 hx4 hy1 hy2 hy3 hy4 A0 A0 s
section
theorem tT (x y:Int×Int):(x.2<x.1∧y.2<y.1∧Cc x y=(1,0))∨(x.2<x.1∧¬y.2<y.1∧Cc x y=y)∨(¬x.2<x.1∧y.2<y.1∧Cc x y=x)∨(¬x.2<x.1∧¬y.2<y.1∧Cc x y=(min x.1 y.1,max x.2 y.2)):=by
 by_cases h1:x.2<x.1<;>by_cases h2:y.2<y.1<;>simp [Cc,emp,h1,h2]
theorem uT (x y:Int×Int):((x.2<x.1∨y.2<y.1∨min x.2 y.2<max x.1 y.1)∧Ao x y=(1,0))∨(¬x.2<x.1∧¬y.2<y.1∧¬min x.2 y.2<max x.1 y.1∧Ao x y=(max x.1 y.1,min x.2 y.2)):=by
 by_cases h1:x.2<x.1
 ·left;exact⟨.inl h1,by simp [Ao,emp,h1]⟩
 ·by_cases h2:y.2<y.1
  ·left;exact⟨.inr (.inl h2),by simp [Ao,emp,h2]⟩
  ·by_cases h3:min x.2 y.2<max x.1 y.1
   ·left;exact⟨.inr (.inr h3),by simp only [Ao,emp,h1,h2,h3];simp⟩
   ·right;exact⟨h1,h2,h3,by simp only [Ao,emp,h1,h2,h3];simp⟩
theorem within_iff (x y:Int×Int):aD x y=true↔(x.2<x.1∨(y.1≤x.1∧x.2≤y.2)):=by
 simp [aD,emp]
theorem aqf (x y:Int×Int):aD x (Cc x y)=true:=by
 rw [within_iff];rcases tT x y with⟨h1,h2,h⟩|⟨h1,h2,h⟩|⟨h1,h2,h⟩|⟨h1,h2,h⟩<;>rw [h]<;>(try dsimp only)<;>omega
theorem vt (x y:Int×Int):aD y (Cc x y)=true:=by
 rw [within_iff];rcases tT x y with⟨h1,h2,h⟩|⟨h1,h2,h⟩|⟨h1,h2,h⟩|⟨h1,h2,h⟩<;>rw [h]<;>(try dsimp only)<;>omega
theorem tj (x y:Int×Int) (n:Int):((Ao x y).1≤n∧n≤(Ao x y).2)↔((x.1≤n∧n≤x.2)∧(y.1≤n∧n≤y.2)):=by
 rcases uT x y with⟨h1,h⟩|⟨h1,h2,h3,h⟩<;>rw [h]<;>(try dsimp only)<;>omega
def M5 (op:Int) (x y:Int×Int):Int×Int:=
 if op=16 then CR (decide (x.1=x.2∧y.1=y.2∧x.1=y.1)) (decide (x.2<y.1∨y.2<x.1)) else if op=17 then CR (decide (x.2<y.1∨y.2<x.1)) (decide (x.1=x.2∧y.1=y.2∧x.1=y.1))
 else if op=18 then CR (decide (x.2<y.1)) (decide (y.2≤x.1)) else if op=19 then CR (decide (x.2≤y.1)) (decide (y.2<x.1))
 else if op=20 then CR (decide (y.2<x.1)) (decide (x.2≤y.1)) else CR (decide (y.2≤x.1)) (decide (x.2<y.1))
theorem aab (op:Int) (x y:Int×Int) (h1:16≤op) (h2:op≤21) (hx:x.1≤x.2) (hy:y.1≤y.2):Dr op x y=M5 op x y:=by
 have no:¬(op<6∨23<op):=by omega
 have ne:¬(x.2<x.1∨y.2<y.1):=by omega
 have hm:emp (Ao x y)=decide (x.2<y.1∨y.2<x.1):=by
  rcases uT x y with⟨c,e⟩|⟨c1,c2,c3,e⟩
  ·rw [e,Qj];simp [emp];omega
  ·rw [e,Qj];simp only [emp,E4];omega
 have h:op=16∨op=17∨op=18∨op=19∨op=20∨op=21:=by omega
 rw [Dr,A6 no,A6 ne];by_cases s:x.1=x.2∧y.1=y.2
 ·obtain⟨xl,xh⟩:=x
  obtain⟨yl,yh⟩:=y;dsimp only at *;obtain⟨rfl,rfl⟩:=s;rw [A9 ⟨rfl,rfl⟩];have hw:we op yl=0:=by unfold we;rw [A9 ⟨by omega,by omega⟩,A6 A0]
  rw [A9 hw];rcases h with rfl|rfl|rfl|rfl|rfl|rfl
  ·by_cases c:xl=yl
   ·simp [wv,M5,CR,EH,c]
   ·have:xl<yl∨yl<xl:=by omega
    simp [wv,M5,CR,EH,c,this]
  ·by_cases c:xl=yl
   ·simp [wv,M5,CR,EH,c]
   ·have:xl<yl∨yl<xl:=by omega
    simp [wv,M5,CR,EH,c,this]
  all_goals
   simp only [wv,M5,CR,EH];simp
   (repeat' split)<;>first|rfl|omega
 ·rw [A6 s]
  have s':¬(x.1=x.2∧y.1=y.2∧x.1=y.1):=fun h=>s ⟨h.1,h.2.1⟩;rcases h with rfl|rfl|rfl|rfl|rfl|rfl
  ·simp only [Ep,OJ,M5,hm,s'];simp
  ·simp only [Ep,OJ,M5,hm,s'];simp
  ·simp only [Ep,OJ,M5];simp
  ·simp only [Ep,OJ,M5];simp
  ·simp only [Ep,OJ,M5];simp
  ·simp only [Ep,OJ,M5];simp
def Mem (v:Int) (z:Int×Int):Prop:=z.1≤v∧v≤z.2
def WI (z:Int×Int):Prop:=AL z.1∧AL z.2
def Lz (v:Int) (l:List Int):Prop:=∃p q,p∈l∧q∈l∧p≤v∧v≤q
theorem Z7 (v:Int):AL (wrap32 v):=by unfold AL wrap32;omega
theorem VF {v:Int} (h:AL v):wrap32 v=v:=by unfold AL at h;unfold wrap32;omega
theorem afO (l:List Int):∀a:Int,l.foldl min a≤a∧∀x∈l,l.foldl min a≤x:=by
 induction l with
 | nil=>intro a;exact⟨EJ _,fun x h=>by cases h⟩
 | cons y l ih=>
  intro a;have h:=ih (min a y);simp only [LP];refine⟨by omega,fun x hx=>?_⟩;rcases Da.1 hx with rfl|hx
  ·omega
  ·exact h.2 x hx
theorem xN (l:List Int):∀a:Int,a≤l.foldl max a∧∀x∈l,x≤l.foldl max a:=by
 induction l with
 | nil=>intro a;exact⟨EJ _,fun x h=>by cases h⟩
 | cons y l ih=>
  intro a;have h:=ih (max a y);simp only [LP];refine⟨by omega,fun x hx=>?_⟩;rcases Da.1 hx with rfl|hx
  ·omega
  ·exact h.2 x hx
theorem mX {l:List Int} (h:l≠[]):nth l 0∈l:=by
 cases l with
 | nil=>exact absurd rfl h
 | cons a l=>simp [nth]
theorem tU {l:List Int} {x:Int} (h:x∈l):Mo l≤x:=(afO l _).2 x h
theorem sJ {l:List Int} {x:Int} (h:x∈l):x≤IY l:=(xN l _).2 x h
theorem mH (l:List Int):Au l=(-2147483648,2147483647)∨(Au l=(Mo l,IY l)∧-2147483648≤Mo l∧IY l≤2147483647):=by
 unfold Au;split
 ·exact .inl rfl
 ·exact .inr ⟨rfl,by omega,by omega⟩
theorem ZF {l:List Int} {v:Int} (h:Lz v l):Mem (wrap32 v) (Au l):=by
 obtain⟨p,q,hp,hq,h1,h2⟩:=h;have a1:=tU hp;have a2:=sJ hq;rcases mH l with e|⟨e,e1,e2⟩<;>rw [e]
 ·exact Z7 v
 ·rw [VF ⟨by omega,by omega⟩]
  exact⟨by simp only;omega,by simp only;omega⟩
theorem jB (c b lo hi:Int) (h1:lo≤b) (h2:b≤hi):(c*lo≤c*b∧c*b≤c*hi)∨(c*hi≤c*b∧c*b≤c*lo):=by
 by_cases hc:0≤c
 ·exact .inl ⟨tW h1 hc,tW h2 hc⟩
 ·exact .inr ⟨jt A0 h2,jt A0 h1⟩
theorem aln {x y:Int×Int} {a b:Int} (ha:Mem a x) (hb:Mem b y):Lz (a*b) [x.1*y.1,x.1*y.2,x.2*y.1,x.2*y.2]:=by
 have h1:=jB b a x.1 x.2 ha.1 ha.2;have h2:=jB x.1 b y.1 y.2 hb.1 hb.2;have h3:=jB x.2 b y.1 y.2 hb.1 hb.2;rw [Int.mul_comm b x.1,Int.mul_comm b a,Int.mul_comm b x.2] at h1;have key:(∃p∈[x.1*y.1,x.1*y.2,x.2*y.1,x.2*y.2],p≤a*b)∧(∃q∈[x.1*y.1,x.1*y.2,x.2*y.1,x.2*y.2],a*b≤q):=by
  simp only [Da,WS,SL,exists_eq_or_imp,exists_eq_left];omega
 obtain⟨⟨p,hp,h4⟩,⟨q,hq,h5⟩⟩:=key;exact⟨p,q,hp,hq,h4,h5⟩
theorem at6 {x y:Int×Int} {a b:Int} (ha:Mem a x) (hb:Mem b y):Lz (a+b) [x.1+y.1,x.1+y.2,x.2+y.1,x.2+y.2]:=by
 unfold Mem at *;exact⟨x.1+y.1,x.2+y.2,by simp,by simp,by omega,by omega⟩
theorem aag {x y:Int×Int} {a b:Int} (ha:Mem a x) (hb:Mem b y):Lz (a - b) [x.1 - y.1,x.1 - y.2,x.2 - y.1,x.2 - y.2]:=by
 unfold Mem at *;exact⟨x.1 - y.2,x.2 - y.1,by simp,by simp,by omega,by omega⟩
theorem bT {a a' b:Int} (hb:0<b) (h:a≤a'):a.tdiv b≤a'.tdiv b:=Int.tdiv_le_tdiv hb h
theorem arb (b a lo hi:Int) (hb:b≠0) (h1:lo≤a) (h2:a≤hi):(lo.tdiv b≤a.tdiv b∧a.tdiv b≤hi.tdiv b)∨(hi.tdiv b≤a.tdiv b∧a.tdiv b≤lo.tdiv b):=by
 by_cases c:0<b
 ·exact .inl ⟨bT c h1,bT c h2⟩
 ·right
  have e:∀z:Int,z.tdiv b = -(z.tdiv (-b)):=fun z=>by rw [Int.tdiv_neg,Int.neg_neg]
  have p1:=bT (b:=-b) A0 h1;have p2:=bT (b:=-b) A0 h2;rw [e a,e lo,e hi];omega
theorem dQ {c b b':Int} (hc:0≤c) (hb:0<b) (h:b≤b'):c.tdiv b'≤c.tdiv b:=by
 rw [Int.tdiv_eq_ediv_of_nonneg hc,Int.tdiv_eq_ediv_of_nonneg hc];rw [Int.le_ediv_iff_mul_le hb];have h1:=Int.ediv_mul_le c (show b'≠0 by omega);have h2:=tW h (Int.ediv_nonneg hc (show 0≤b' by omega));omega
theorem nT (c b lo hi:Int) (h0:0<lo) (h1:lo≤b) (h2:b≤hi):(c.tdiv lo≤c.tdiv b∧c.tdiv b≤c.tdiv hi)∨(c.tdiv hi≤c.tdiv b∧c.tdiv b≤c.tdiv lo):=by
 by_cases hc:0≤c
 ·exact .inr ⟨dQ hc A0 h2,dQ hc h0 h1⟩
 ·left
  have e:∀z:Int,c.tdiv z = -((-c).tdiv z):=fun z=>by rw [Int.neg_tdiv,Int.neg_neg]
  have p1:=dQ (c:=-c) A0 (by omega:0<b) h2;have p2:=dQ (c:=-c) A0 h0 h1;rw [e b,e lo,e hi];omega
theorem vC (c b lo hi:Int) (h0:0<lo∨hi<0) (h1:lo≤b) (h2:b≤hi):(c.tdiv lo≤c.tdiv b∧c.tdiv b≤c.tdiv hi)∨(c.tdiv hi≤c.tdiv b∧c.tdiv b≤c.tdiv lo):=by
 rcases h0 with h0|h0
 ·exact nT c b lo hi h0 h1 h2
 ·have e:∀z:Int,c.tdiv z = -(c.tdiv (-z)):=fun z=>by rw [Int.tdiv_neg,Int.neg_neg]
  have:=nT c (-b) (-hi) (-lo) A0 A0 A0;rw [e b,e lo,e hi];omega
theorem uG {x p:Int×Int} {a b:Int} (ha:Mem a x) (hb:Mem b p) (h0:0<p.1∨p.2<0):Lz (a.tdiv b) (divC x p):=by
 unfold Mem at ha hb;have h1:=arb b a x.1 x.2 A0 ha.1 ha.2;have h2:=vC x.1 b p.1 p.2 h0 hb.1 hb.2;have h3:=vC x.2 b p.1 p.2 h0 hb.1 hb.2;have key:(∃q∈divC x p,q≤a.tdiv b)∧(∃q∈divC x p,a.tdiv b≤q):=by
  simp only [divC,Da,WS,SL,exists_eq_or_imp,exists_eq_left];omega
 obtain⟨⟨p',hp,h4⟩,⟨q,hq,h5⟩⟩:=key;exact⟨p',q,hp,hq,h4,h5⟩
theorem Lz.left {v:Int} {l m:List Int} (h:Lz v l):Lz v (l++m):=by
 obtain⟨p,q,hp,hq,h⟩:=h;exact⟨p,q,Rl _ hp,Rl _ hq,h⟩
theorem Lz.right {v:Int} {l m:List Int} (h:Lz v m):Lz v (l++m):=by
 obtain⟨p,q,hp,hq,h⟩:=h;exact⟨p,q,pP _ hp,pP _ hq,h⟩
theorem amU {x y:Int×Int} {a b:Int} (ha:Mem a x) (hb:Mem b y) (h0:b≠0):Lz (a.tdiv b) (U6 x y):=by
 unfold Mem at hb;unfold U6;by_cases c:b<0
 ·rw [A9 A0]
  exact (uG (p:=(y.1,min y.2 (-1))) ha ⟨by simp only;omega,by simp only;omega⟩ (.inr GD)).left
 ·rw [A9 (show 0<y.2 by omega)]
  exact (uG (p:=(max y.1 1,y.2)) ha ⟨by simp only;omega,by simp only;omega⟩ (.inl GD)).right
theorem aqg (a b:Int) (hb:b≠0):(0≤a→0≤a.tmod b∧a.tmod b≤a∧a.tmod b<b.natAbs)∧(a≤0→a.tmod b≤0∧a≤a.tmod b∧-(b.natAbs:Int)<a.tmod b):=by
 have key:∀a:Int,0≤a→0≤a.tmod b∧a.tmod b≤a∧a.tmod b<b.natAbs:=by
  intro a ha;have h1:=Int.natAbs_tmod a b;have h2:=Xu b ha;have h3:a.natAbs % b.natAbs<b.natAbs:=dW _ A0;have h4:=Nat.mod_le a.natAbs b.natAbs;omega
 refine⟨key a,fun ha=>?_⟩;have:=key (-a) A0;rw [Int.neg_tmod] at this;omega
theorem ash {x y:Int×Int} {a b:Int} (ha:Mem a x) (hb:Mem b y) (h0:b≠0):Mem (a.tmod b) (FE x y):=by
 unfold Mem at ha hb;have hm:=aqg a b h0;have n0:¬(y.1=0∧y.2=0):=by omega
 have hM:(b.natAbs:Int)≤OC y+1:=by unfold OC;omega
 rw [FE,A6 n0];generalize OC y=m at *;unfold Mem;simp only;constructor
 ·split<;>omega
 ·split<;>omega
theorem jf (n:Nat):(0:Int)<2 ^ n:=by have:=(Yn n n (AH _)).1;omega
theorem aqC {x:Int×Int} {a:Int} (n:Nat) (ha:Mem a x):Lz (a*2 ^ n) [x.1*2 ^ n,x.2*2 ^ n]:=by
 have hp:=jf n;refine⟨x.1*2 ^ n,x.2*2 ^ n,by simp,by simp,?_,?_⟩
 ·exact wu ha.1 A0
 ·exact wu ha.2 A0
theorem o6 (a:Int) (n:Nat):(0≤a→0≤a / 2 ^ n∧a / 2 ^ n≤a)∧(a<0→a≤a / 2 ^ n∧a / 2 ^ n<0):=by
 have hp:=jf n;constructor
 ·intro h
  exact⟨Int.ediv_nonneg h A0,Int.ediv_le_self _ h⟩
 ·intro h
  refine⟨?_,Int.ediv_neg_of_neg_of_pos h hp⟩;rw [Int.le_ediv_iff_mul_le hp];have:=jt (a:=a) (b:=2 ^ n) (c:=1) A0 A0;rw [Int.mul_one] at this;exact this
theorem Vv (op:BinOp) (a b:Int):bits op .i32 a b=wrap32 ((match op with
  | .and=>BitVec.ofInt 32 a &&& BitVec.ofInt 32 b
  | .or=>BitVec.ofInt 32 a ||| BitVec.ofInt 32 b
  | .xor=>BitVec.ofInt 32 a ^^^ BitVec.ofInt 32 b
  | _=>BitVec.ofInt 32 a &&& ~~~(BitVec.ofInt 32 b)).toNat:Nat):=by
 have w:∀n:Int,IntKind.i32.wrap n=wrap32 n:=fun n=>by rw [pZ,wrap32]
 rw [←w];cases op<;>rfl
theorem Wc (a:Int) (h:AL a):((BitVec.ofInt 32 a).toNat:Int)=if 0≤a then a else a+4294967296:=by
 unfold AL at h;rw [BitVec.toNat_ofInt];simp only [Nat.reducePow];split<;>omega
theorem oC {a b:Int} (ha:AL a) (h0:0≤a):0≤bits .and .i32 a b∧bits .and .i32 a b≤a:=by
 rw [Vv];simp only [BitVec.toNat_and];have h1:=Wc a ha;rw [A9 h0] at h1;have h2:=@Nat.and_le_left (BitVec.ofInt 32 a).toNat (BitVec.ofInt 32 b).toNat;unfold AL at ha;rw [VF ⟨by omega,by omega⟩];omega
theorem rM {a b:Int} (hb:AL b) (h0:0≤b):0≤bits .and .i32 a b∧bits .and .i32 a b≤b:=by
 rw [Vv];simp only [BitVec.toNat_and];have h1:=Wc b hb;rw [A9 h0] at h1;have h2:=@Nat.and_le_right (BitVec.ofInt 32 a).toNat (BitVec.ofInt 32 b).toNat;unfold AL at hb;rw [VF ⟨by omega,by omega⟩];omega
theorem wO:∀(f x:Nat),x<2 ^ f→x<2 ^ Lib.bitLenAux f x:=by
 intro f;induction f with
 | zero=>intro x h;simpa [Lib.bitLenAux] using h
 | succ f ih=>
  intro x h;unfold Lib.bitLenAux;split
  ·rename_i e;subst e;exact Nat.one_pos
  ·have:=ih (x / 2) (by rw [Nat.pow_succ] at h;omega)
   rw [TT,Nat.pow_succ];omega
theorem afN:∀(f x y:Nat),x≤y→Lib.bitLenAux f x≤Lib.bitLenAux f y:=by
 intro f;induction f with
 | zero=>intro x y _;exact AH _
 | succ f ih=>
  intro x y h;unfold Lib.bitLenAux;by_cases hx:x=0
  ·rw [A9 hx];exact Ca _
  ·rw [A6 hx,A6 A0]
   have:=ih (x / 2) (y / 2) (Nat.div_le_div_right h);omega
theorem zz {n:Int} (h0:0≤n) (h1:n≤2147483647):n≤Gn n:=by
 have:=wO 64 n.toNat A0;unfold Gn Lib.bitLen;have e:((2 ^ Lib.bitLenAux 64 n.toNat:Nat):Int)=2 ^ Lib.bitLenAux 64 n.toNat:=by simp
 omega
theorem yU {n m:Int} (h:n≤m):Gn n≤Gn m:=by
 have:=(Yn _ _ (afN 64 n.toNat m.toNat A0)).2;unfold Gn Lib.bitLen;omega
theorem qM {a b n:Int} (h0:0≤a) (h1:0≤b) (ha:a≤n) (hb:b≤n) (hn:n≤2147483647):(0≤bits .xor .i32 a b∧bits .xor .i32 a b≤Gn n)∧(a≤bits .or .i32 a b∧b≤bits .or .i32 a b∧bits .or .i32 a b≤Gn n):=by
 have ea:=Wc a ⟨by omega,by omega⟩;have eb:=Wc b ⟨by omega,by omega⟩;rw [A9 h0] at ea;rw [A9 h1] at eb;have hp:=wO 64 n.toNat A0;have ho:=anE (show 0≤n by omega) hn;have e:((2 ^ Lib.bitLenAux 64 n.toNat:Nat):Int)=2 ^ Lib.bitLenAux 64 n.toNat:=by simp
 have hx:=@Nat.xor_lt_two_pow (BitVec.ofInt 32 a).toNat (BitVec.ofInt 32 b).toNat _ (kf A0 hp) (kf A0 hp);have hy:=@Nat.or_lt_two_pow (BitVec.ofInt 32 a).toNat (BitVec.ofInt 32 b).toNat _ (kf A0 hp) (kf A0 hp);have hl:=@Nat.left_le_or (BitVec.ofInt 32 a).toNat (BitVec.ofInt 32 b).toNat;have hr:=@Nat.right_le_or (BitVec.ofInt 32 a).toNat (BitVec.ofInt 32 b).toNat;rw [Vv,Vv];simp only [BitVec.toNat_xor,BitVec.toNat_or];have eo:Gn n=2 ^ Lib.bitLenAux 64 n.toNat - 1:=rfl;rw [VF ⟨by omega,by omega⟩,VF ⟨by omega,by omega⟩];omega
theorem as4 {a b:Int} (ha:AL a) (hb:AL b) (h0:a<0) (h1:b<0):a≤bits .or .i32 a b∧b≤bits .or .i32 a b∧bits .or .i32 a b≤-1:=by
 have ea:=Wc a ha;have eb:=Wc b hb;rw [A6 A0] at ea;rw [A6 A0] at eb;unfold AL at ha hb;have hl:=@Nat.left_le_or (BitVec.ofInt 32 a).toNat (BitVec.ofInt 32 b).toNat;have hr:=@Nat.right_le_or (BitVec.ofInt 32 a).toNat (BitVec.ofInt 32 b).toNat;have hy:=@Nat.or_lt_two_pow (BitVec.ofInt 32 a).toNat (BitVec.ofInt 32 b).toNat 32 (BitVec.ofInt 32 a).isLt (BitVec.ofInt 32 b).isLt;rw [Vv];simp only [BitVec.toNat_or];unfold wrap32;omega
theorem bJ (op:BinOp) (a b:Int):AL (bits op .i32 a b):=by rw [Vv];exact Z7 _
theorem gI {v:Int} (h:AL v):Mem v (-2147483648,2147483647):=h
theorem asj {x y:Int×Int} {a b:Int} (ha:Mem a x) (hb:Mem b y) (h0:b≠0):Mem (wrap32 (a.tdiv b)) (OE x y):=by
 have n0:¬(y.1=0∧y.2=0):=by unfold Mem at hb;omega
 rw [OE,A6 n0];split
 ·exact Z7 _
 ·exact ZF (amU ha hb h0)
theorem zD {op:Int} {x y:Int×Int} {a b:Int} (hop:op=11∨op=12∨op=13) (hx:WI x) (hy:WI y) (ha:Mem a x) (hb:Mem b y):Mem (wv op a b) (Jd op x y):=by
 have wa:AL a:=⟨Ph hx.1.1 ha.1,Ph ha.2 hx.2.2⟩;have wb:AL b:=⟨Ph hy.1.1 hb.1,Ph hb.2 hy.2.2⟩;unfold WI AL at hx hy;unfold Mem at ha hb;rcases hop with rfl|rfl|rfl
 ·rw [show wv 11 a b=bits .and .i32 a b from rfl]
  unfold Jd;by_cases h1:0≤x.1<;>by_cases h2:0≤y.1
  ·have p:=oC (b:=b) wa A0
   have q:=rM (a:=a) wb A0;rw [A9 ⟨rfl,h1,h2⟩];exact⟨p.1,by simp only;omega⟩
  ·have p:=oC (b:=b) wa A0
   rw [A6 (fun h=>h2 h.2.2),A9 ⟨rfl,h1⟩];exact⟨p.1,by simp only;omega⟩
  ·have q:=rM (a:=a) wb A0
   rw [A6 (fun h=>h1 h.2.1),A6 (fun h=>h1 h.2),A9 ⟨rfl,h2⟩];exact⟨q.1,by simp only;omega⟩
  ·rw [A6 (fun h=>h1 h.2.1),A6 (fun h=>h1 h.2),A6 (fun h=>h2 h.2)]
   simp only [show ¬((11:Int)=12) by decide,show ¬((11:Int)=13) by decide,false_and,Lc];exact bJ _ _ _
 ·rw [show wv 12 a b=bits .or .i32 a b from rfl]
  unfold Jd;simp only [show ¬((12:Int)=11) by decide,show ¬((12:Int)=13) by decide,false_and,Lc,true_and];by_cases h1:0≤x.1∧0≤y.1
  ·have p:=qM (a:=a) (b:=b) (n:=max x.2 y.2) A0 A0 A0 A0 A0
   rw [A9 h1];exact⟨by simp only;omega,p.2.2.2⟩
  ·rw [A6 h1]
   by_cases h2:x.2<0∧y.2<0
   ·have p:=as4 wa wb A0 A0
    rw [A9 h2];exact⟨by simp only;omega,p.2.2⟩
   ·rw [A6 h2]
    exact bJ _ _ _
 ·rw [show wv 13 a b=bits .xor .i32 a b from rfl]
  unfold Jd;simp only [show ¬((13:Int)=11) by decide,show ¬((13:Int)=12) by decide,false_and,Lc,true_and];by_cases h1:0≤x.1∧0≤y.1
  ·have p:=qM (a:=a) (b:=b) (n:=max x.2 y.2) A0 A0 A0 A0 A0
   rw [A9 h1];exact p.1
  ·rw [A6 h1]
   exact bJ _ _ _
theorem af2 {op:Int} {x y:Int×Int} {a b:Int} (hop:op=14∨op=15) (hx:WI x) (ha:Mem a x) (hb:Mem b y):Mem (wv op a b) (Kh op x y):=by
 have wa:AL a:=⟨Ph hx.1.1 ha.1,Ph ha.2 hx.2.2⟩;unfold Kh;rcases hop with rfl|rfl
 ·rw [A9 rfl,show wv 14 a b=wrap32 (a*2 ^ (b % 32).toNat) from rfl]
  split
  ·rename_i e
   obtain rfl:b=y.1:=by unfold Mem at hb;omega
   exact ZF (aqC _ ha)
  ·exact Z7 _
 ·rw [A6 AP,show wv 15 a b=a / 2 ^ (b % 32).toNat from rfl]
  split
  ·rename_i e
   obtain rfl:b=y.1:=by unfold Mem at hb;omega
   have hp:=jf (y.1 % 32).toNat;exact⟨Int.ediv_le_ediv hp ha.1,Int.ediv_le_ediv hp ha.2⟩
  ·have p:=o6 a (b % 32).toNat
   generalize a / 2 ^ (b % 32).toNat=r at *;unfold Mem at *;simp only;constructor
   ·split<;>omega
   ·split<;>omega
theorem ao8 {op:Int} {x y:Int×Int} {a b:Int} (hop:op=22∨op=23) (ha:Mem a x) (hb:Mem b y):Mem (wv op a b) (Q8 op x y):=by
 have h1:NY x=false→a≠0:=by intro h;simp [NY] at h;unfold Mem at ha;omega
 have h2:NY y=false→b≠0:=by intro h;simp [NY] at h;unfold Mem at hb;omega
 have h3:is0 x=true→a=0:=by intro h;simp [is0] at h;unfold Mem at ha;omega
 have h4:is0 y=true→b=0:=by intro h;simp [is0] at h;unfold Mem at hb;omega
 rcases hop with rfl|rfl
 ·rw [show wv 22 a b=EH (a != 0 && b != 0) from rfl]
  unfold Q8;rw [A9 rfl];by_cases za:a=0<;>by_cases zb:b=0<;>cases c1:NY x<;>cases c2:NY y<;>cases c3:is0 x<;>cases c4:is0 y<;>simp_all [Mem,EH,CR]
 ·rw [show wv 23 a b=EH (a != 0 || b != 0) from rfl]
  unfold Q8;rw [A6 AP];by_cases za:a=0<;>by_cases zb:b=0<;>cases c1:NY x<;>cases c2:NY y<;>cases c3:is0 x<;>cases c4:is0 y<;>simp_all [Mem,EH,CR]
theorem aex {op:Int} {x y:Int×Int} {a b:Int} (h1:16≤op) (h2:op≤21) (ha:Mem a x) (hb:Mem b y):Mem (wv op a b) (M5 op x y):=by
 have h:op=16∨op=17∨op=18∨op=19∨op=20∨op=21:=by omega
 unfold Mem at ha hb;have key:∀(p s n:Bool),(s=true→p=true)→(n=true→p=false)→Mem (EH p) (CR s n):=by
  intro p s n;cases p<;>cases s<;>cases n<;>simp [Mem,EH,CR]
 rcases h with rfl|rfl|rfl|rfl|rfl|rfl
 ·exact key (a==b) _ _ CD CD
 ·exact key (a != b) _ _ CD CD
 ·exact key (decide (a<b)) _ _ CD CD
 ·exact key (decide (a≤b)) _ _ CD CD
 ·exact key (decide (b<a)) _ _ CD CD
 ·exact key (decide (b≤a)) _ _ CD CD
theorem dL {op:Int} {x y:Int×Int} {a b:Int} (hx:WI x) (hy:WI y) (ha:Mem a x) (hb:Mem b y) (he:we op b=0):Mem (wv op a b) (Dr op x y):=by
 have hop:6≤op∧op≤23:=by
  unfold we at he;by_cases h:6≤op∧op≤23
  ·exact h
  ·rw [A6 h] at he;cases he
 have hz:op=9∨op=10→b≠0:=by
  intro h0 hb0;unfold we at he;rw [A9 hop,A9 ⟨h0,hb0⟩] at he;cases he
 have no:¬(op<6∨23<op):=by omega
 have ne:¬(x.2<x.1∨y.2<y.1):=by unfold Mem at ha hb;omega
 by_cases hc:16≤op∧op≤21
 ·rw [aab op x y hc.1 hc.2 A0 A0]
  exact aex hc.1 hc.2 ha hb
 rw [Dr,A6 no,A6 ne];split
 ·rename_i s
  unfold Mem at ha hb;obtain rfl:a=x.1:=by omega
  obtain rfl:b=y.1:=by omega
  rw [A9 he];exact⟨EJ _,EJ _⟩
 ·have h:op=6∨op=7∨op=8∨op=9∨op=10∨(op=11∨op=12∨op=13)∨(op=14∨op=15)∨(op=22∨op=23):=by omega
  rcases h with rfl|rfl|rfl|rfl|rfl|h|h|h
  ·exact ZF (at6 ha hb)
  ·exact ZF (aag ha hb)
  ·exact ZF (aln ha hb)
  ·have h0:=hz (.inl rfl)
   rw [show wv 9 a b=wrap32 (a.tdiv b) by simp [wv,h0]];exact asj ha hb h0
  ·have h0:=hz (.inr rfl)
   rw [show wv 10 a b=a.tmod b by simp [wv,h0]];exact ash ha hb h0
  ·have e:Ep op x y=Jd op x y:=by
    unfold Ep;rw [A6 A0,A6 A0,A6 A0,A6 A0,A6 A0,A9 A0]
   rw [e];exact zD h hx hy ha hb
  ·have e:Ep op x y=Kh op x y:=by
    unfold Ep;rw [A6 A0,A6 A0,A6 A0,A6 A0,A6 A0,A6 A0,A9 A0]
   rw [e];exact af2 h hx ha hb
  ·have e:Ep op x y=Q8 op x y:=by
    unfold Ep;rw [A6 A0,A6 A0,A6 A0,A6 A0,A6 A0,A6 A0,A6 A0,A6 A0]
   rw [e];exact ao8 h ha hb
def Sub (x y:Int×Int):Prop:=x.2<x.1∨(y.1≤x.1∧x.2≤y.2)
section
variable {x y x' y':Int×Int} (hx:x.1≤x.2) (hy:y.1≤y.2) (sx:x'.1≤x.1∧x.2≤x'.2) (sy:y'.1≤y.1∧y.2≤y'.2)
include hx hy sx sy
end
end
section
theorem Ak {w:World} {b:Nat} {o:Obj} (h:w.heap[b]?=some o):b<w.heap.size:=(Bl.1 h).1
structure Fr (S:Nat→Prop) (w w':World):Prop where
 os:w'.os=w.os
 tape:w'.tape=w.tape
 output:w'.output=w.output
 size:w.heap.size≤w'.heap.size
 block:∀k,k<w.heap.size→¬S k→w'.heap[k]?=w.heap[k]?
theorem Fr.refl (S:Nat→Prop) (w:World):Fr S w w:=⟨rfl,rfl,rfl,AH _,fun _ _ _=>rfl⟩
theorem Fr.trans {S:Nat→Prop} {a b c:World} (h:Fr S a b) (k:Fr S b c):Fr S a c:=
 ⟨k.os.trans h.os,k.tape.trans h.tape,k.output.trans h.output,FK h.size k.size,fun i h1 h2=>(k.block i (F7 h1 h.size) h2).trans (h.block i h1 h2)⟩
theorem Fr.of {S:Nat→Prop} {w w':World} (h:Below w.heap.size w w'):Fr S w w':=⟨h.os,h.tape,h.output,h.size,fun k h1 _=>h.block k h1⟩
theorem Fr.mono {S S':Nat→Prop} {w w':World} (h:Fr S w w') (i:∀k,k<w.heap.size→S k→S' k):Fr S' w w':=⟨h.os,h.tape,h.output,h.size,fun k h1 h2=>h.block k h1 (fun h3=>h2 (i k h1 h3))⟩
theorem Fr.below {S:Nat→Prop} {w w':World} {B:Nat} (h:Fr S w w') (hB:B≤w.heap.size) (hS:∀k,S k→B≤k):Below B w w':=
 ⟨h.os,h.tape,h.output,h.size,fun k hk=>h.block k (F7 hk hB) (fun h3=>by have:=hS k h3;omega)⟩
theorem Fr.since {S S':Nat→Prop} {w0 w w':World} (h0:Fr S w0 w) (h:Fr S' w w') (i:∀k,S' k→S k∨w0.heap.size≤k):Fr S w0 w':=
 ⟨h.os.trans h0.os,h.tape.trans h0.tape,h.output.trans h0.output,FK h0.size h.size,fun k h1 h2=>(h.block k (F7 h1 h0.size) (fun h3=>by rcases i k h3 with h4|h4;exact h2 h4;omega)).trans (h0.block k h1 h2)⟩
theorem Fr.cell {S:Nat→Prop} {w w':World} (h:Fr S w w') {b:Nat} (o:Nat) (hb:b<w.heap.size) (hn:¬S b):w'.cell? ⟨b,o,none⟩=w.cell? ⟨b,o,none⟩:=N3 (h.block b hb hn)
theorem Fr.set {S:Nat→Prop} {w w':World} {b o:Nat} (h:Fr S w w') (v:Value) (hp:S b∨w.heap.size≤b):Fr S w (w'.setCell ⟨b,o,none⟩ v):=
 ⟨h.os,h.tape,h.output,by simpa using h.size,fun k h1 h2=>by
  rw [Bb _ _ _ _ (by show k≠b;rintro rfl;rcases hp with hp|hp;exact h2 hp;omega)]
  exact h.block k h1 h2⟩
theorem Fr.alloc {S:Nat→Prop} {w w':World} (h:Fr S w w') (o:Obj):Fr S w (w'.alloc o):=
 h.trans (Fr.of ((AV _ _).alloc (AH _) _))
theorem Fr.drew {S:Nat→Prop} {w w':World} (h:Fr S w w'):Fr S w w'.drew:=h.trans (Fr.of (Dl (AV _ _)))
theorem Fr.own {S:Nat→Prop} {w w':World} (h:Fr S w w') {B n size:Nat} {e:TypeId} {v:Value} {xs:List Value} (ho:w.ownsRow B e size v n xs) (hn:∀q,v.ownBlock=some q→¬S q):w'.ownsRow B e size v n xs:=by
 refine⟨ho.1,?_⟩;rcases ho.2 with h0|⟨g,cap,cur,rfl,hb,hk,hr⟩
 ·exact .inl h0
 ·exact .inr ⟨g,cap,cur,rfl,hb,(h.block g (Ak hk) (hn g rfl)).trans hk,hr⟩
structure St where
 pc:Int
 r:List Int
 d:Value
 hal:Bool
 held:Int
def St.cells (s:St):Array Value:=(Value.int .i64 s.pc :: (s.r.map (Value.int .i32)++[s.d,.bool s.hal,.int .i64 s.held])).toArray
structure Bx (w:World) (sb:Nat) (s:St):Prop where
 blk:w.heap[sb]?=some (.cells s.cells 82 (0,0))
 len:s.r.length=16
 wd:∀x∈s.r,AL x
section
variable {w:World} {sb:Nat} {s:St}
theorem Bx.lt (h:Bx w sb s):sb<w.heap.size:=Ak h.blk
theorem Bx.keep {w':World} (h:Bx w sb s) (e:w'.heap[sb]?=w.heap[sb]?):Bx w' sb s:=⟨e.trans h.blk,h.len,h.wd⟩
theorem St.zO (hl:s.r.length=16) {k:Nat} (hk:k<16):s.cells[1+k]?=some (.int .i32 (s.r.getD k 0)):=by
 unfold St.cells;rw [YF,TT,List.getElem?_cons_succ,Kr CD,D8];simp [List.getD,Ab (show k<s.r.length by omega)]
theorem St.ij (hl:s.r.length=16) (k:Nat):s.cells[17+k]?=[s.d,.bool s.hal,.int .i64 s.held][k]?:=by
 unfold St.cells;rw [YF,show 17+k=(16+k)+1 by omega,List.getElem?_cons_succ,Jg CD];simp [hl]
theorem Bx.pc (h:Bx w sb s):w.cell? ⟨sb,0,none⟩=some (.int .i64 s.pc):=by simp [World.cell?,h.blk,St.cells]
theorem Bx.A7 (h:Bx w sb s) {k:Nat} (hk:k<16):w.cell? ⟨sb,1+k,none⟩=some (.int .i32 (s.r.getD k 0)):=by
 have:=St.zO h.len hk;simpa [World.cell?,h.blk] using this
theorem Bx.dat (h:Bx w sb s):w.cell? ⟨sb,17,none⟩=some s.d:=by have:=St.ij h.len 0;simpa [World.cell?,h.blk] using this
theorem Bx.hal (h:Bx w sb s):w.cell? ⟨sb,18,none⟩=some (.bool s.hal):=by have:=St.ij h.len 1;simpa [World.cell?,h.blk] using this
theorem Bx.held (h:Bx w sb s):w.cell? ⟨sb,19,none⟩=some (.int .i64 s.held):=by have:=St.ij h.len 2;simpa [World.cell?,h.blk] using this
theorem Bx.fz (h:Bx w sb s) (o:Nat):w.frozen? ⟨sb,o,none⟩=false:=by simp [World.frozen?,h.blk]
theorem Bx.Oi (h:Bx w sb s) (k:Nat):AL (s.r.getD k 0):=by
 by_cases hk:k<s.r.length
 ·have e:s.r.getD k 0=s.r[k]:=by simp [List.getD,Ab hk]
  rw [e];exact h.wd _ (CQ hk)
 ·have e:s.r.getD k 0=0:=by simp [List.getD,Dy (kF hk)]
  rw [e];unfold AL;omega
theorem Bx.afE (h:Bx w sb s) (x:Int):Bx (w.setCell ⟨sb,0,none⟩ (.int .i64 x)) sb { s with pc:=x }:=
 ⟨by rw [Cl w sb 0 _ _ _ h.blk];simp [St.cells],h.len,h.wd⟩
theorem St.xT (hl:s.r.length=16) {k:Nat} (hk:k<16) (v:Int):s.cells.setIfInBounds (1+k) (.int .i32 v)=({ s with r:=s.r.set k v }:St).cells:=by
 unfold St.cells;simp only [Ax];rw [TT,Aw,List.set_append_left _ _ CD,Tv]
theorem St.set_tail (hl:s.r.length=16) (k:Nat) (v:Value):s.cells.setIfInBounds (17+k) v=(Value.int .i64 s.pc :: (s.r.map (Value.int .i32)++[s.d,.bool s.hal,.int .i64 s.held].set k v)).toArray:=by
 unfold St.cells;simp only [Ax];rw [show 17+k=(16+k)+1 by omega,Aw,nE _ _ CD];simp [hl]
theorem Bx.asP (h:Bx w sb s) {k:Nat} (hk:k<16) {v:Int} (hv:AL v):Bx (w.setCell ⟨sb,1+k,none⟩ (.int .i32 v)) sb { s with r:=s.r.set k v }:=
 ⟨by rw [Cl w sb (1+k) _ _ _ h.blk,St.xT h.len hk],by simp [h.len],fun x hx=>by
  rcases VQ hx with h1|rfl
  ·exact h.wd x h1
  ·exact hv⟩
theorem Bx.aso (h:Bx w sb s) (x:Bool):Bx (w.setCell ⟨sb,18,none⟩ (.bool x)) sb { s with hal:=x }:=
 ⟨by rw [Cl w sb 18 _ _ _ h.blk,St.set_tail h.len 1];simp [St.cells],h.len,h.wd⟩
theorem Bx.wA (h:Bx w sb s) (x:Int):Bx (w.setCell ⟨sb,19,none⟩ (.int .i64 x)) sb { s with held:=x }:=
 ⟨by rw [Cl w sb 19 _ _ _ h.blk,St.set_tail h.len 2];simp [St.cells],h.len,h.wd⟩
end
theorem Bx.drew {w:World} {sb:Nat} {s:St} (h:Bx w sb s):Bx w.drew sb s:=h.keep rfl
def Bo (I:Ins) (pc:Int) (tk:Bool) (ad vl:Int) (sb:Nat) (nx:Int):Array Value:=
 #[.int .u8 I.op,.int .i64 I.a,.int .i64 I.b,.int .i64 I.c,.int .i64 I.AD,.int .i64 pc,.bool tk,.int .i64 ad,.int .i32 vl,.pointer (some ⟨sb,0,none⟩),.int .i64 nx]
def JC (r:List Int) (a v:Int):List Int:=if a=0 then r else r.set a.toNat v
abbrev F0 (l:List Int):List Value:=l.map (Value.int .i32)
end
end Go.Proofs.YtlmgkipmfgijiaaGreatDoor
