/-
  What is proved here: parts bIc, bIp, bKa.
-/
import Derived.Test.YtlmgkipmfgijiaaGreatDoorVa
import Derived.Test.YtlmgkipmfgijiaaGreatDoorVg
import Derived.Test.YtlmgkipmfgijiaaGreatDoorVb
import Derived.Test.YtlmgkipmfgijiaaGreatDoorVd
namespace Go.Proofs.YtlmgkipmfgijiaaGreatDoor
set_option linter.unusedVariables false
set_option linter.unusedSimpArgs false
set_option maxRecDepth 100000
set_option maxHeartbeats 8000000
open Go.RowKit
def divC (x y:Int×Int):List Int:=[x.1.tdiv y.1,x.1.tdiv y.2,x.2.tdiv y.1,x.2.tdiv y.2]
def Ya (x y:Int×Int):List Int:=(if y.1<0 then divC x (y.1,min y.2 (-1)) else [])++(if 0<y.2 then divC x (max y.1 1,y.2) else [])
def Pz (x y:Int×Int):Int×Int:=
 if y.1=0∧y.2=0 then (1,0) else if (x.1≤-2147483648∧-2147483648≤x.2)∧(y.1≤-1∧-1≤y.2) then (-2147483648,2147483647) else Az (Ya x y)
structure Div (w W:World) (xl xh pl ph:Int) (p:Nat):Prop where
 below:Below w.heap.size w W
 bx:W.heap[w.heap.size]?=some (.cells #[.int .i32 xl,.int .i32 xh] 172 (0,0))
 br:W.heap[w.heap.size+1+1]?=some (.cells #[.int .i32 0,.int .i32 0] 172 (0,0))
 bp:W.heap[p]?=some (.cells #[.int .i32 pl,.int .i32 ph] 172 (0,0))
theorem lt_of_block {W:World} {k:Nat} {ob:Obj} (h:W.heap[k]?=some ob):k<W.heap.size:=by
 rcases Iz k W.heap.size with h'|h'
 ·exact h'
 ·rw [qD h'] at h;cases h
theorem Nq {W:World} (ob:Obj) {k:Nat} {ob':Obj} (h:W.heap[k]?=some ob'):(W.alloc ob).heap[k]?=some ob':=by
 have hlt:=lt_of_block h;show (W.heap.push ob)[k]?=_;rw [Array.getElem?_push,A9 (Nat.ne_of_lt hlt)];exact h
theorem kF (W:World) (ob:Obj):(W.alloc ob).heap[W.heap.size]?=some ob:=by
 show (W.heap.push ob)[W.heap.size]?=_;rw [Array.getElem?_push,AE rfl]
theorem gK {W W':World} {ob:Obj} {B n k:Nat} {v:Value} {xs:List Value} {c:Array Value} (hk:W.heap[k]?=some (.cells c 172 (0,0))) (hown:W.ownsRow B 2 1 v n xs) (hg:(W.alloc ob).grownBy W' v.ownBlock):W'.heap[k]?=some (.cells c 172 (0,0)):=by
 have hlt:=lt_of_block hk;rw [hg.block k Hz ?_]
 ·exact Nq ob hk
 ·rcases hown.2 with⟨rfl,_⟩|⟨g,cap,cur,rfl,_,hb,_⟩
  ·simp [Value.ownBlock]
  ·simp only [Value.ownBlock,ne_eq,Ri]
   rintro rfl;rw [hk] at hb;simp at hb
theorem Div.grown {w W W':World} {xl xh pl ph:Int} {p B n:Nat} {v:Value} {xs:List Value} {ob:Obj} (D:Div w W xl xh pl ph p) (hB:w.heap.size≤B) (hown:W.ownsRow B 2 1 v n xs) (hg:(W.alloc ob).grownBy W' v.ownBlock):Div w W' xl xh pl ph p:=by
 have hs:=D.below.size;refine⟨(D.below.alloc hs ob).grown hg Hz ?_,gK D.bx hown hg,gK D.br hown hg,gK D.bp hown hg⟩;intro k hk;rcases hown.2 with⟨rfl,_⟩|⟨g,cap,cur,rfl,hb,_⟩
 ·cases hk
 ·cases hk;exact EM hB hb
theorem Vz {W:World} (y:Ext W) {k:Nat} {ob:Obj} (h:W.heap[k]?=some ob):y.w.heap[k]?=some ob:=by
 rw [y.h.block k (lt_of_block h)];exact h
theorem zI {W:World} (y:Ext W) {B n size:Nat} {e:TypeId} {v:Value} {xs:List Value} (h:W.ownsRow B e size v n xs):y.w.ownsRow B e size v n xs:=by
 refine⟨h.1,?_⟩;rcases h.2 with h0|⟨g,cap,cur,hv,hb,hk,hr⟩
 ·exact .inl h0
 ·exact .inr ⟨g,cap,cur,hv,hb,Vz y hk,hr⟩
theorem Div.ext {w W:World} {xl xh pl ph:Int} {p B n:Nat} {v:Value} {xs:List Value} (D:Div w W xl xh pl ph p) (hown:W.ownsRow B 2 1 v n xs) (y:Ext W):∃W',y.w=W'∧Div w W' xl xh pl ph p∧W'.ownsRow B 2 1 v n xs:=
 ⟨_,rfl,⟨Ext.below D.below D.below.size y,Vz y D.bx,Vz y D.br,Vz y D.bp⟩,zI y hown⟩
theorem Div.part {w W:World} {xl xh pl ph:Int} {p B n:Nat} {v:Value} {xs:List Value} (D:Div w W xl xh pl ph p) (hown:W.ownsRow B 2 1 v n xs) (ql qh:Int):∃(W':World) (q:Nat),W.alloc (.cells #[.int .i32 ql,.int .i32 qh] 172)=W'∧W.heap.size=q∧Div w W' xl xh ql qh q∧W'.ownsRow B 2 1 v n xs:=
 ⟨_,_,rfl,rfl,⟨D.below.alloc D.below.size _,Nq _ D.bx,Nq _ D.br,kF _ _⟩,hown.alloc _⟩
theorem Div.cells {w W:World} {xl xh pl ph:Int} {p:Nat} (D:Div w W xl xh pl ph p) :
  W.cell? ⟨w.heap.size,0,none⟩=some (.int .i32 xl)∧W.cell? ⟨w.heap.size,1,none⟩=some (.int .i32 xh)∧W.cell? ⟨p,0,none⟩=some (.int .i32 pl)∧W.cell? ⟨p,1,none⟩=some (.int .i32 ph)∧w.heap.size<W.heap.size∧p<W.heap.size:=by
 refine⟨?_,?_,?_,?_,lt_of_block D.bx,lt_of_block D.bp⟩<;>simp [World.cell?,D.bx,D.bp]
theorem Div.result {w W:World} {xl xh pl ph:Int} {p:Nat} (D:Div w W xl xh pl ph p) :
  W.cell? ⟨w.heap.size+1+1,0,none⟩=some (.int .i32 0)∧W.cell? ⟨w.heap.size+1+1,1,none⟩=some (.int .i32 0)∧W.frozen? ⟨w.heap.size+1+1,0,none⟩=false∧W.frozen? ⟨w.heap.size+1+1,1,none⟩=false∧w.heap.size+1+1<W.heap.size:=by
 refine⟨?_,?_,?_,?_,lt_of_block D.br⟩<;>simp [World.cell?,World.frozen?,D.br]
theorem Div.ER {w W:World} {xl xh pl ph:Int} {p:Nat} (D:Div w W xl xh pl ph p) (ob:Obj):w.heap.size≤(W.alloc ob).heap.size:=by
 have:=D.below.size;rw [El];omega
theorem kj (xl xh yl yh a b c d:Int) (w:World) (y:Ext (((w.alloc (Obj.cells #[Value.int IntKind.i32 xl,Value.int IntKind.i32 xh] 172)).alloc (Obj.cells #[Value.int IntKind.i32 yl,Value.int IntKind.i32 yh] 172)).alloc (Obj.cells #[Value.int IntKind.i32 0,Value.int IntKind.i32 0] 172))) :
  ∃W:World,(y.w.alloc (Obj.cells #[Value.int IntKind.i32 a,Value.int IntKind.i32 b] 172)).alloc (Obj.cells #[Value.int IntKind.i32 c,Value.int IntKind.i32 d] 172)=W∧Div w W xl xh xl xh w.heap.size:=by
 have hs:w.heap.size+1+1+1≤y.w.heap.size:=o9 y.h;have e1:y.w.heap[w.heap.size]?=some (.cells #[.int .i32 xl,.int .i32 xh] 172 (0,0)):=Vz y (Nq _ (Nq _ (kF _ _)));have e2:y.w.heap[w.heap.size+1+1]?=some (.cells #[.int .i32 0,.int .i32 0] 172 (0,0)):=Vz y (by have:=kF ((w.alloc (Obj.cells #[Value.int IntKind.i32 xl,Value.int IntKind.i32 xh] 172)).alloc (Obj.cells #[Value.int IntKind.i32 yl,Value.int IntKind.i32 yh] 172)) (Obj.cells #[Value.int IntKind.i32 0,Value.int IntKind.i32 0] 172);rw [El,El] at this;exact this);refine⟨_,rfl,?_,Nq _ (Nq _ e1),Nq _ (Nq _ e2),Nq _ (Nq _ e1)⟩;exact Ie
theorem Jh (x y:Int) (h1 : -2147483648≤x) (h2:x≤2147483647) : -2147483648≤x.tdiv y∧x.tdiv y≤2147483648:=by
 have h:(x.tdiv y).natAbs≤x.natAbs:=by rw [Int.natAbs_tdiv];exact Nat.div_le_self _ _
 omega
theorem nJ (a b c d:Int) (w:World):(Instr.index 224 (.agg #[.int .i32 a,.int .i32 b,.int .i32 c,.int .i32 d]) (.int .i64 0)).run Tryz.prog w=.ok (.agg #[.int .i32 a,.int .i32 b]) w:=by kernel_rfl
theorem jQ (a b c d:Int) (w:World):(Instr.index 224 (.agg #[.int .i32 a,.int .i32 b,.int .i32 c,.int .i32 d]) (.int .i64 1)).run Tryz.prog w=.ok (.agg #[.int .i32 c,.int .i32 d]) w:=by kernel_rfl
theorem amh (xl xh yl yh:Int) (w:World) (hx1 : -2147483648≤xl) (hx2:xl≤2147483647) (hx3 : -2147483648≤xh) (hx4:xh≤2147483647) (hy1 : -2147483648≤yl) (hy2:yl≤2147483647) (hy3 : -2147483648≤yh) (hy4:yh≤2147483647) (nh pl:Int) (NH:Hid (min yh (-1)=nh)) (PL:Hid (max yl 1=pl)) (Mc:Hid ((decide (xl≤-2147483648) && decide (-2147483648≤xh))=false)∨Hid ((decide (xl≤-2147483648) && decide (-2147483648≤xh))=true)∧Hid ((decide (yl≤-1) && decide (-1≤yh))=false)) (nz:(yl==0 && yh==0)=false) (n1 : -2147483648≤nh) (n2:nh≤2147483647) (n3 : -2147483648≤pl) (n4:pl≤2147483647) (q1:yl≤nh) (q2:nh≤-1) (q3:yh<pl) (Y6:Hid (decide (nh<yl)=false)) (X7:Hid (decide (yh<pl)=true)) :
  Calls Tryz.prog 145 #[.agg #[.int .i32 xl,.int .i32 xh],.agg #[.int .i32 yl,.int .i32 yh]] w fun e w'=>e=.returned (.agg #[.int .i32 (Az ([xl.tdiv yl,xl.tdiv nh,xh.tdiv yl,xh.tdiv nh])).1,.int .i32 (Az ([xl.tdiv yl,xl.tdiv nh,xh.tdiv yl,xh.tdiv nh])).2])∧Below w.heap.size w w':=by
 obtain⟨i0,hi,hz0,hz1,hz2⟩:=D5 UZ;have Wq:=ix0;have X3:=ix1;have j0f:=nJ;have j1f:=jQ;have e2:=KL;have zyl:(yl==0)=false:=by simp;omega
 have aiQ:=Jh xl yl A0 A0;have apc:=Jh xh yl A0 A0;have y8:=Jh xl nh A0 A0;have ams:=Jh xh nh A0 A0;go_enter aA,fP;go_wp2_with fail;refine Cg A6 A6 ?_;repeat (go_big_quiet_step ((go_at_call 130;exact Calls.AQ (EG _ _))))
 refine Ba ?_;rintro _ ⟨x1,rfl⟩;rcases Mc with BX|⟨BX,BY⟩;all_goals
  go_wp2_with (first|(go_at_call 153;(first|(with_reducible refine (Calls.AQ (IE (Mu _ _ _ _) BX.out)).mono ?_)|(with_reducible refine (Calls.AQ (IE (Mu _ _ _ _) BY.out)).mono ?_));rintro e _ ⟨rfl,y,rfl⟩));obtain⟨W,hW,D⟩:=kj xl xh yl yh yl (min yh (-1)) (max yl 1) yh w y;rw [hW];clear hW;have hown:W.ownsRow w.heap.size 2 1 (.slice none 0 0) 0 []:=⟨rfl,.inl ⟨rfl,rfl⟩⟩;rw [NH.out,PL.out];refine Fo 3 ?_;rw [BP];go_wp2_with fail;obtain⟨Wp0,q0,hW,hq,Nk,RV⟩:=D.part hown (yl) (nh);rw [hW,hq];clear hW hq D hown;obtain⟨c1,c2,c3,c4,s1,s2⟩:=Nk.cells;refine (Calls.ext (IE (Ax _ _ _) Y6.out)).mono ?_;rintro e _ ⟨rfl,y,rfl⟩;obtain⟨fO,hW,Lt,PU⟩:=Nk.ext RV y;rw [hW];clear hW Nk RV;obtain⟨c1,c2,c3,c4,s1,s2⟩:=Lt.cells;go_wp2_with fail;refine Fo 3 ?_;rw [BP];go_wp2_with fail;refine Fo 3 ?_;rw [BP];go_wp2_with (at_builtin;refine Ee _ rfl (.tmp 65) (.tmp 69) 220 rfl w.heap.size 2 i0 (.int .i64 0) 1 8 Ef hi hz0 hz1 hz2 rfl AK _ _ _ rfl (PU.alloc _) ⟨World.heap fO |>.size,0,none⟩ 1 1 [.int .i64 (xl.tdiv yl)] rfl rfl (DV _ _ _) BS Bc A0 (Lt.ER _) ?_;intro va0 Xh Fu hgrow _);have LW:=Lt.grown (AH _) PU hgrow;obtain⟨c1,c2,c3,c4,s1,s2⟩:=LW.cells;clear hgrow PU Lt;go_wp2_with fail;rw [BP];go_wp2_with (at_builtin;refine Ee _ rfl (.tmp 65) (.tmp 69) 220 rfl w.heap.size 2 i0 (.int .i64 0) 1 8 Ef hi hz0 hz1 hz2 rfl AK _ _ _ rfl (Fu.alloc _) ⟨World.heap Xh |>.size,0,none⟩ 1 1 [.int .i64 (xl.tdiv nh)] rfl rfl (DV _ _ _) BS Bc A0 (LW.ER _) ?_;intro va1 Xd hown1 hgrow _);have L0:=LW.grown (AH _) Fu hgrow;obtain⟨c1,c2,c3,c4,s1,s2⟩:=L0.cells;clear hgrow Fu LW;go_wp2_with fail;rw [BP];go_wp2_with fail;rw [BP];go_wp2_with fail;refine Fo 3 ?_;rw [BP];go_wp2_with (at_builtin;refine Ee _ rfl (.tmp 65) (.tmp 69) 220 rfl w.heap.size 2 i0 (.int .i64 0) 1 8 Ef hi hz0 hz1 hz2 rfl AK _ _ _ rfl (hown1.alloc _) ⟨World.heap Xd |>.size,0,none⟩ 1 1 [.int .i64 (xh.tdiv yl)] rfl rfl (DV _ _ _) BS Bc A0 (L0.ER _) ?_;intro va2 YY hown2 hgrow _);have LF:=L0.grown (AH _) hown1 hgrow;obtain⟨c1,c2,c3,c4,s1,s2⟩:=LF.cells;clear hgrow hown1 L0;go_wp2_with fail;rw [BP];go_wp2_with (at_builtin;refine Ee _ rfl (.tmp 65) (.tmp 69) 220 rfl w.heap.size 2 i0 (.int .i64 0) 1 8 Ef hi hz0 hz1 hz2 rfl AK _ _ _ rfl (hown2.alloc _) ⟨World.heap YY |>.size,0,none⟩ 1 1 [.int .i64 (xh.tdiv nh)] rfl rfl (DV _ _ _) BS Bc A0 (LF.ER _) ?_;intro va3 Wa3 Gw hgrow _);have ML:=LF.grown (AH _) hown2 hgrow;obtain⟨c1,c2,c3,c4,s1,s2⟩:=ML.cells;clear hgrow hown2 LF;go_wp2_with fail;rw [BP];go_wp2_with fail;rw [BP];go_wp2_with fail;rw [BP];go_wp2_with fail;obtain⟨Wp1,q1,hW,hq,Nt,SS⟩:=ML.part Gw (pl) (yh);rw [hW,hq];clear hW hq ML Gw;obtain⟨c1,c2,c3,c4,s1,s2⟩:=Nt.cells;refine (Calls.ext (IE (Ax _ _ _) X7.out)).mono ?_;rintro e _ ⟨rfl,y,rfl⟩;obtain⟨cQ,hW,Lb,PB⟩:=Nt.ext SS y;rw [hW];clear hW Nt SS;obtain⟨c1,c2,c3,c4,s1,s2⟩:=Lb.cells;go_wp2_with fail;rw [BP];go_wp2_with fail;obtain⟨g,cap,hv,hg,hc⟩:=UR (l:=[xl.tdiv yl,xl.tdiv nh,xh.tdiv yl,xh.tdiv nh]) rfl (by simpa using PB) AO;rw [hv];obtain⟨r1,r2,r3,r4,r5⟩:=Lb.result;have kB:=Lb.below;clear hv PB Lb;refine (Calls.ext (UL g cap [xl.tdiv yl,xl.tdiv nh,xh.tdiv yl,xh.tdiv nh] _ AO AO hg hc)).mono ?_;rintro e _ ⟨rfl,y5,rfl⟩;clear hc
  go_wp2
  all_goals
   refine Al (v:=.agg #[.int .i32 (Az [xl.tdiv yl,xl.tdiv nh,xh.tdiv yl,xh.tdiv nh]).1,.int .i32 (Az [xl.tdiv yl,xl.tdiv nh,xh.tdiv yl,xh.tdiv nh]).2]) ?hr rfl ⟨rfl,?A7⟩;case hr=>
    simp [results,cP,go_sem,r1,r2,r5]
   case A7=>
    exact jU
theorem xM (xl xh yl yh:Int) (w:World) (hx1 : -2147483648≤xl) (hx2:xl≤2147483647) (hx3 : -2147483648≤xh) (hx4:xh≤2147483647) (hy1 : -2147483648≤yl) (hy2:yl≤2147483647) (hy3 : -2147483648≤yh) (hy4:yh≤2147483647) (nh pl:Int) (NH:Hid (min yh (-1)=nh)) (PL:Hid (max yl 1=pl)) (Mc:Hid ((decide (xl≤-2147483648) && decide (-2147483648≤xh))=false)∨Hid ((decide (xl≤-2147483648) && decide (-2147483648≤xh))=true)∧Hid ((decide (yl≤-1) && decide (-1≤yh))=false)) (nz:(yl==0 && yh==0)=false) (n1 : -2147483648≤nh) (n2:nh≤2147483647) (n3 : -2147483648≤pl) (n4:pl≤2147483647) (q1:nh<yl) (q2:1≤pl) (q3:pl≤yh) (Y6:Hid (decide (nh<yl)=true)) (X7:Hid (decide (yh<pl)=false)) :
  Calls Tryz.prog 145 #[.agg #[.int .i32 xl,.int .i32 xh],.agg #[.int .i32 yl,.int .i32 yh]] w fun e w'=>e=.returned (.agg #[.int .i32 (Az ([xl.tdiv pl,xl.tdiv yh,xh.tdiv pl,xh.tdiv yh])).1,.int .i32 (Az ([xl.tdiv pl,xl.tdiv yh,xh.tdiv pl,xh.tdiv yh])).2])∧Below w.heap.size w w':=by
 obtain⟨i0,hi,hz0,hz1,hz2⟩:=D5 UZ;have Wq:=ix0;have X3:=ix1;have j0f:=nJ;have j1f:=jQ;have e2:=KL;have aqO:=Jh xl pl A0 A0;have xk:=Jh xh pl A0 A0;have zyh:(yh==0)=false:=by simp;omega
 have apA:=Jh xl yh A0 A0;have anH:=Jh xh yh A0 A0;go_enter aA,fP;go_wp2_with fail;refine Cg A6 A6 ?_;repeat (go_big_quiet_step ((go_at_call 130;exact Calls.AQ (EG _ _))))
 refine Ba ?_;rintro _ ⟨x1,rfl⟩;rcases Mc with BX|⟨BX,BY⟩;all_goals
  go_wp2_with (first|(go_at_call 153;(first|(with_reducible refine (Calls.AQ (IE (Mu _ _ _ _) BX.out)).mono ?_)|(with_reducible refine (Calls.AQ (IE (Mu _ _ _ _) BY.out)).mono ?_));rintro e _ ⟨rfl,y,rfl⟩));obtain⟨W,hW,D⟩:=kj xl xh yl yh yl (min yh (-1)) (max yl 1) yh w y;rw [hW];clear hW;have hown:W.ownsRow w.heap.size 2 1 (.slice none 0 0) 0 []:=⟨rfl,.inl ⟨rfl,rfl⟩⟩;rw [NH.out,PL.out];refine Fo 3 ?_;rw [BP];go_wp2_with fail;obtain⟨Wp0,q0,hW,hq,Nk,RV⟩:=D.part hown (yl) (nh);rw [hW,hq];clear hW hq D hown;obtain⟨c1,c2,c3,c4,s1,s2⟩:=Nk.cells;refine (Calls.ext (IE (Ax _ _ _) Y6.out)).mono ?_;rintro e _ ⟨rfl,y,rfl⟩;obtain⟨fO,hW,Lt,PU⟩:=Nk.ext RV y;rw [hW];clear hW Nk RV;obtain⟨c1,c2,c3,c4,s1,s2⟩:=Lt.cells;go_wp2_with fail;rw [BP];go_wp2_with fail;obtain⟨Wp1,q1,hW,hq,Nt,SS⟩:=Lt.part PU (pl) (yh);rw [hW,hq];clear hW hq Lt PU;obtain⟨c1,c2,c3,c4,s1,s2⟩:=Nt.cells;refine (Calls.ext (IE (Ax _ _ _) X7.out)).mono ?_;rintro e _ ⟨rfl,y,rfl⟩;obtain⟨cQ,hW,Lb,PB⟩:=Nt.ext SS y;rw [hW];clear hW Nt SS;obtain⟨c1,c2,c3,c4,s1,s2⟩:=Lb.cells;go_wp2_with fail;refine Fo 3 ?_;rw [BP];go_wp2_with fail;refine Fo 3 ?_;rw [BP];go_wp2_with (at_builtin;refine Ee _ rfl (.tmp 65) (.tmp 69) 220 rfl w.heap.size 2 i0 (.int .i64 0) 1 8 Ef hi hz0 hz1 hz2 rfl AK _ _ _ rfl (PB.alloc _) ⟨World.heap cQ |>.size,0,none⟩ 1 1 [.int .i64 (xl.tdiv pl)] rfl rfl (DV _ _ _) BS Bc A0 (Lb.ER _) ?_;intro va0 Xh Fu hgrow _);have LW:=Lb.grown (AH _) PB hgrow;obtain⟨c1,c2,c3,c4,s1,s2⟩:=LW.cells;clear hgrow PB Lb;go_wp2_with fail;rw [BP];go_wp2_with (at_builtin;refine Ee _ rfl (.tmp 65) (.tmp 69) 220 rfl w.heap.size 2 i0 (.int .i64 0) 1 8 Ef hi hz0 hz1 hz2 rfl AK _ _ _ rfl (Fu.alloc _) ⟨World.heap Xh |>.size,0,none⟩ 1 1 [.int .i64 (xl.tdiv yh)] rfl rfl (DV _ _ _) BS Bc A0 (LW.ER _) ?_;intro va1 Xd hown1 hgrow _);have L0:=LW.grown (AH _) Fu hgrow;obtain⟨c1,c2,c3,c4,s1,s2⟩:=L0.cells;clear hgrow Fu LW;go_wp2_with fail;rw [BP];go_wp2_with fail;rw [BP];go_wp2_with fail;refine Fo 3 ?_;rw [BP];go_wp2_with (at_builtin;refine Ee _ rfl (.tmp 65) (.tmp 69) 220 rfl w.heap.size 2 i0 (.int .i64 0) 1 8 Ef hi hz0 hz1 hz2 rfl AK _ _ _ rfl (hown1.alloc _) ⟨World.heap Xd |>.size,0,none⟩ 1 1 [.int .i64 (xh.tdiv pl)] rfl rfl (DV _ _ _) BS Bc A0 (L0.ER _) ?_;intro va2 YY hown2 hgrow _);have LF:=L0.grown (AH _) hown1 hgrow;obtain⟨c1,c2,c3,c4,s1,s2⟩:=LF.cells;clear hgrow hown1 L0;go_wp2_with fail;rw [BP];go_wp2_with (at_builtin;refine Ee _ rfl (.tmp 65) (.tmp 69) 220 rfl w.heap.size 2 i0 (.int .i64 0) 1 8 Ef hi hz0 hz1 hz2 rfl AK _ _ _ rfl (hown2.alloc _) ⟨World.heap YY |>.size,0,none⟩ 1 1 [.int .i64 (xh.tdiv yh)] rfl rfl (DV _ _ _) BS Bc A0 (LF.ER _) ?_;intro va3 Wa3 Gw hgrow _);have ML:=LF.grown (AH _) hown2 hgrow;obtain⟨c1,c2,c3,c4,s1,s2⟩:=ML.cells;clear hgrow hown2 LF;go_wp2_with fail;rw [BP];go_wp2_with fail;rw [BP];go_wp2_with fail;rw [BP];go_wp2_with fail;obtain⟨g,cap,hv,hg,hc⟩:=UR (l:=[xl.tdiv pl,xl.tdiv yh,xh.tdiv pl,xh.tdiv yh]) rfl (by simpa using Gw) AO;rw [hv];obtain⟨r1,r2,r3,r4,r5⟩:=ML.result;have kB:=ML.below;clear hv Gw ML;refine (Calls.ext (UL g cap [xl.tdiv pl,xl.tdiv yh,xh.tdiv pl,xh.tdiv yh] _ AO AO hg hc)).mono ?_;rintro e _ ⟨rfl,y5,rfl⟩;clear hc
  go_wp2
  all_goals
   refine Al (v:=.agg #[.int .i32 (Az [xl.tdiv pl,xl.tdiv yh,xh.tdiv pl,xh.tdiv yh]).1,.int .i32 (Az [xl.tdiv pl,xl.tdiv yh,xh.tdiv pl,xh.tdiv yh]).2]) ?hr rfl ⟨rfl,?A7⟩;case hr=>
    simp [results,cP,go_sem,r1,r2,r5]
   case A7=>
    exact jU
theorem apY (xl xh yl yh:Int) (w:World) (hx1 : -2147483648≤xl) (hx2:xl≤2147483647) (hx3 : -2147483648≤xh) (hx4:xh≤2147483647) (hy1 : -2147483648≤yl) (hy2:yl≤2147483647) (hy3 : -2147483648≤yh) (hy4:yh≤2147483647) (nh pl:Int) (NH:Hid (min yh (-1)=nh)) (PL:Hid (max yl 1=pl)) (Mc:Hid ((decide (xl≤-2147483648) && decide (-2147483648≤xh))=false)∨Hid ((decide (xl≤-2147483648) && decide (-2147483648≤xh))=true)∧Hid ((decide (yl≤-1) && decide (-1≤yh))=false)) (nz:(yl==0 && yh==0)=false) (n1 : -2147483648≤nh) (n2:nh≤2147483647) (n3 : -2147483648≤pl) (n4:pl≤2147483647) (q1:yl≤nh) (q2:nh≤-1) (q3:1≤pl) (q4:pl≤yh) (Y6:Hid (decide (nh<yl)=false)) (X7:Hid (decide (yh<pl)=false)) :
  Calls Tryz.prog 145 #[.agg #[.int .i32 xl,.int .i32 xh],.agg #[.int .i32 yl,.int .i32 yh]] w fun e w'=>e=.returned (.agg #[.int .i32 (Az ([xl.tdiv yl,xl.tdiv nh,xh.tdiv yl,xh.tdiv nh,xl.tdiv pl,xl.tdiv yh,xh.tdiv pl,xh.tdiv yh])).1,.int .i32 (Az ([xl.tdiv yl,xl.tdiv nh,xh.tdiv yl,xh.tdiv nh,xl.tdiv pl,xl.tdiv yh,xh.tdiv pl,xh.tdiv yh])).2])∧Below w.heap.size w w':=by
 obtain⟨i0,hi,hz0,hz1,hz2⟩:=D5 UZ;have Wq:=ix0;have X3:=ix1;have j0f:=nJ;have j1f:=jQ;have e2:=KL;have zyl:(yl==0)=false:=by simp;omega
 have aiQ:=Jh xl yl A0 A0;have apc:=Jh xh yl A0 A0;have y8:=Jh xl nh A0 A0;have ams:=Jh xh nh A0 A0;have aqO:=Jh xl pl A0 A0;have xk:=Jh xh pl A0 A0;have zyh:(yh==0)=false:=by simp;omega
 have apA:=Jh xl yh A0 A0;have anH:=Jh xh yh A0 A0;go_enter aA,fP;go_wp2_with fail;refine Cg A6 A6 ?_;repeat (go_big_quiet_step ((go_at_call 130;exact Calls.AQ (EG _ _))))
 refine Ba ?_;rintro _ ⟨x1,rfl⟩;rcases Mc with BX|⟨BX,BY⟩;all_goals
  go_wp2_with (first|(go_at_call 153;(first|(with_reducible refine (Calls.AQ (IE (Mu _ _ _ _) BX.out)).mono ?_)|(with_reducible refine (Calls.AQ (IE (Mu _ _ _ _) BY.out)).mono ?_));rintro e _ ⟨rfl,y,rfl⟩));obtain⟨W,hW,D⟩:=kj xl xh yl yh yl (min yh (-1)) (max yl 1) yh w y;rw [hW];clear hW;have hown:W.ownsRow w.heap.size 2 1 (.slice none 0 0) 0 []:=⟨rfl,.inl ⟨rfl,rfl⟩⟩;rw [NH.out,PL.out];refine Fo 3 ?_;rw [BP];go_wp2_with fail;obtain⟨Wp0,q0,hW,hq,Nk,RV⟩:=D.part hown (yl) (nh);rw [hW,hq];clear hW hq D hown;obtain⟨c1,c2,c3,c4,s1,s2⟩:=Nk.cells;refine (Calls.ext (IE (Ax _ _ _) Y6.out)).mono ?_;rintro e _ ⟨rfl,y,rfl⟩;obtain⟨fO,hW,Lt,PU⟩:=Nk.ext RV y;rw [hW];clear hW Nk RV;obtain⟨c1,c2,c3,c4,s1,s2⟩:=Lt.cells;go_wp2_with fail;refine Fo 3 ?_;rw [BP];go_wp2_with fail;refine Fo 3 ?_;rw [BP];go_wp2_with (at_builtin;refine Ee _ rfl (.tmp 65) (.tmp 69) 220 rfl w.heap.size 2 i0 (.int .i64 0) 1 8 Ef hi hz0 hz1 hz2 rfl AK _ _ _ rfl (PU.alloc _) ⟨World.heap fO |>.size,0,none⟩ 1 1 [.int .i64 (xl.tdiv yl)] rfl rfl (DV _ _ _) BS Bc A0 (Lt.ER _) ?_;intro va0 Xh Fu hgrow _);have LW:=Lt.grown (AH _) PU hgrow;obtain⟨c1,c2,c3,c4,s1,s2⟩:=LW.cells;clear hgrow PU Lt;go_wp2_with fail;rw [BP];go_wp2_with (at_builtin;refine Ee _ rfl (.tmp 65) (.tmp 69) 220 rfl w.heap.size 2 i0 (.int .i64 0) 1 8 Ef hi hz0 hz1 hz2 rfl AK _ _ _ rfl (Fu.alloc _) ⟨World.heap Xh |>.size,0,none⟩ 1 1 [.int .i64 (xl.tdiv nh)] rfl rfl (DV _ _ _) BS Bc A0 (LW.ER _) ?_;intro va1 Xd hown1 hgrow _);have L0:=LW.grown (AH _) Fu hgrow;obtain⟨c1,c2,c3,c4,s1,s2⟩:=L0.cells;clear hgrow Fu LW;go_wp2_with fail;rw [BP];go_wp2_with fail;rw [BP];go_wp2_with fail;refine Fo 3 ?_;rw [BP];go_wp2_with (at_builtin;refine Ee _ rfl (.tmp 65) (.tmp 69) 220 rfl w.heap.size 2 i0 (.int .i64 0) 1 8 Ef hi hz0 hz1 hz2 rfl AK _ _ _ rfl (hown1.alloc _) ⟨World.heap Xd |>.size,0,none⟩ 1 1 [.int .i64 (xh.tdiv yl)] rfl rfl (DV _ _ _) BS Bc A0 (L0.ER _) ?_;intro va2 YY hown2 hgrow _);have LF:=L0.grown (AH _) hown1 hgrow;obtain⟨c1,c2,c3,c4,s1,s2⟩:=LF.cells;clear hgrow hown1 L0;go_wp2_with fail;rw [BP];go_wp2_with (at_builtin;refine Ee _ rfl (.tmp 65) (.tmp 69) 220 rfl w.heap.size 2 i0 (.int .i64 0) 1 8 Ef hi hz0 hz1 hz2 rfl AK _ _ _ rfl (hown2.alloc _) ⟨World.heap YY |>.size,0,none⟩ 1 1 [.int .i64 (xh.tdiv nh)] rfl rfl (DV _ _ _) BS Bc A0 (LF.ER _) ?_;intro va3 Wa3 Gw hgrow _);have ML:=LF.grown (AH _) hown2 hgrow;obtain⟨c1,c2,c3,c4,s1,s2⟩:=ML.cells;clear hgrow hown2 LF;go_wp2_with fail;rw [BP];go_wp2_with fail;rw [BP];go_wp2_with fail;rw [BP];go_wp2_with fail;obtain⟨Wp1,q1,hW,hq,Nt,SS⟩:=ML.part Gw (pl) (yh);rw [hW,hq];clear hW hq ML Gw;obtain⟨c1,c2,c3,c4,s1,s2⟩:=Nt.cells;refine (Calls.ext (IE (Ax _ _ _) X7.out)).mono ?_;rintro e _ ⟨rfl,y,rfl⟩;obtain⟨cQ,hW,Lb,PB⟩:=Nt.ext SS y;rw [hW];clear hW Nt SS;obtain⟨c1,c2,c3,c4,s1,s2⟩:=Lb.cells;go_wp2_with fail;refine Fo 3 ?_;rw [BP];go_wp2_with fail;refine Fo 3 ?_;rw [BP];go_wp2_with (at_builtin;refine Ee _ rfl (.tmp 65) (.tmp 69) 220 rfl w.heap.size 2 i0 (.int .i64 0) 1 8 Ef hi hz0 hz1 hz2 rfl AK _ _ _ rfl (PB.alloc _) ⟨World.heap cQ |>.size,0,none⟩ 1 1 [.int .i64 (xl.tdiv pl)] rfl rfl (DV _ _ _) BS Bc A0 (Lb.ER _) ?_;intro va4 Wa4 MQ hgrow _);have Da4:=Lb.grown (AH _) PB hgrow;obtain⟨c1,c2,c3,c4,s1,s2⟩:=Da4.cells;clear hgrow PB Lb;go_wp2_with fail;rw [BP];go_wp2_with (at_builtin;refine Ee _ rfl (.tmp 65) (.tmp 69) 220 rfl w.heap.size 2 i0 (.int .i64 0) 1 8 Ef hi hz0 hz1 hz2 rfl AK _ _ _ rfl (MQ.alloc _) ⟨World.heap Wa4 |>.size,0,none⟩ 1 1 [.int .i64 (xl.tdiv yh)] rfl rfl (DV _ _ _) BS Bc A0 (Da4.ER _) ?_;intro va5 Wa5 j5 hgrow _);have Da5:=Da4.grown (AH _) MQ hgrow;obtain⟨c1,c2,c3,c4,s1,s2⟩:=Da5.cells;clear hgrow MQ Da4;go_wp2_with fail;rw [BP];go_wp2_with fail;rw [BP];go_wp2_with fail;refine Fo 3 ?_;rw [BP];go_wp2_with (at_builtin;refine Ee _ rfl (.tmp 65) (.tmp 69) 220 rfl w.heap.size 2 i0 (.int .i64 0) 1 8 Ef hi hz0 hz1 hz2 rfl AK _ _ _ rfl (j5.alloc _) ⟨World.heap Wa5 |>.size,0,none⟩ 1 1 [.int .i64 (xh.tdiv pl)] rfl rfl (DV _ _ _) BS Bc A0 (Da5.ER _) ?_;intro va6 Wa6 jv hgrow _);have Da6:=Da5.grown (AH _) j5 hgrow;obtain⟨c1,c2,c3,c4,s1,s2⟩:=Da6.cells;clear hgrow j5 Da5;go_wp2_with fail;rw [BP];go_wp2_with (at_builtin;refine Ee _ rfl (.tmp 65) (.tmp 69) 220 rfl w.heap.size 2 i0 (.int .i64 0) 1 8 Ef hi hz0 hz1 hz2 rfl AK _ _ _ rfl (jv.alloc _) ⟨World.heap Wa6 |>.size,0,none⟩ 1 1 [.int .i64 (xh.tdiv yh)] rfl rfl (DV _ _ _) BS Bc A0 (Da6.ER _) ?_;intro va7 Wa7 nU hgrow _);have Da7:=Da6.grown (AH _) jv hgrow;obtain⟨c1,c2,c3,c4,s1,s2⟩:=Da7.cells;clear hgrow jv Da6;go_wp2_with fail;rw [BP];go_wp2_with fail;rw [BP];go_wp2_with fail;rw [BP];go_wp2_with fail;obtain⟨g,cap,hv,hg,hc⟩:=UR (l:=[xl.tdiv yl,xl.tdiv nh,xh.tdiv yl,xh.tdiv nh,xl.tdiv pl,xl.tdiv yh,xh.tdiv pl,xh.tdiv yh]) rfl (by simpa using nU) AO;rw [hv];obtain⟨r1,r2,r3,r4,r5⟩:=Da7.result;have kB:=Da7.below;clear hv nU Da7;refine (Calls.ext (UL g cap [xl.tdiv yl,xl.tdiv nh,xh.tdiv yl,xh.tdiv nh,xl.tdiv pl,xl.tdiv yh,xh.tdiv pl,xh.tdiv yh] _ AO AO hg hc)).mono ?_;rintro e _ ⟨rfl,y5,rfl⟩;clear hc
  go_wp2
  all_goals
   refine Al (v:=.agg #[.int .i32 (Az [xl.tdiv yl,xl.tdiv nh,xh.tdiv yl,xh.tdiv nh,xl.tdiv pl,xl.tdiv yh,xh.tdiv pl,xh.tdiv yh]).1,.int .i32 (Az [xl.tdiv yl,xl.tdiv nh,xh.tdiv yl,xh.tdiv nh,xl.tdiv pl,xl.tdiv yh,xh.tdiv pl,xh.tdiv yh]).2]) ?hr rfl ⟨rfl,?A7⟩;case hr=>
    simp [results,cP,go_sem,r1,r2,r5]
   case A7=>
    exact jU
theorem amO (xl xh yl yh:Int) (w:World) (nz:(yl==0 && yh==0)=true) (BX:True) (BY:True) :
  Calls Tryz.prog 145 #[.agg #[.int .i32 xl,.int .i32 xh],.agg #[.int .i32 yl,.int .i32 yh]] w fun e w'=>e=.returned (.agg #[.int .i32 (1),.int .i32 (0)])∧Below w.heap.size w w':=by
 have e2:=KL;go_enter aA,fP;go_wp2_with fail;refine Cg A6 A6 ?_;repeat (go_big_quiet_step ((go_at_call 130;exact Calls.AQ (EG _ _))))
 refine Ba ?_;rintro _ ⟨x1,rfl⟩;go_wp2_with (first|(go_at_call 128;((first|(with_reducible refine (Calls.AQ (Bo _)).mono ?_)|(refine (Calls.ext (Bo _)).mono ?_));rintro e _ ⟨rfl,y,rfl⟩))|(go_at_call 133;((first|(with_reducible refine (Calls.AQ (FD _)).mono ?_)|(refine (Calls.ext (FD _)).mono ?_));rintro e _ ⟨rfl,y,rfl⟩))|(go_at_call 153;(first|(with_reducible refine (Calls.AQ (IE (Mu _ _ _ _) BX.out)).mono ?_)|(with_reducible refine (Calls.AQ (IE (Mu _ _ _ _) BY.out)).mono ?_));rintro e _ ⟨rfl,y,rfl⟩));all_goals
  refine Al (v:=.agg #[.int .i32 (1),.int .i32 (0)]) ?hr rfl ⟨rfl,?A7⟩;case hr=>
   simp [results,cP,go_sem]
  case A7=>
   exact Ie
theorem anF (xl xh yl yh:Int) (w:World) (nz:(yl==0 && yh==0)=false) (BX:Hid ((decide (xl≤-2147483648) && decide (-2147483648≤xh))=true)) (BY:Hid ((decide (yl≤-1) && decide (-1≤yh))=true)) :
  Calls Tryz.prog 145 #[.agg #[.int .i32 xl,.int .i32 xh],.agg #[.int .i32 yl,.int .i32 yh]] w fun e w'=>e=.returned (.agg #[.int .i32 (-2147483648),.int .i32 (2147483647)])∧Below w.heap.size w w':=by
 have e2:=KL;go_enter aA,fP;go_wp2_with fail;refine Cg A6 A6 ?_;repeat (go_big_quiet_step ((go_at_call 130;exact Calls.AQ (EG _ _))))
 refine Ba ?_;rintro _ ⟨x1,rfl⟩;go_wp2_with (first|(go_at_call 128;((first|(with_reducible refine (Calls.AQ (Bo _)).mono ?_)|(refine (Calls.ext (Bo _)).mono ?_));rintro e _ ⟨rfl,y,rfl⟩))|(go_at_call 133;((first|(with_reducible refine (Calls.AQ (FD _)).mono ?_)|(refine (Calls.ext (FD _)).mono ?_));rintro e _ ⟨rfl,y,rfl⟩))|(go_at_call 153;(first|(with_reducible refine (Calls.AQ (IE (Mu _ _ _ _) BX.out)).mono ?_)|(with_reducible refine (Calls.AQ (IE (Mu _ _ _ _) BY.out)).mono ?_));rintro e _ ⟨rfl,y,rfl⟩));all_goals
  refine Al (v:=.agg #[.int .i32 (-2147483648),.int .i32 (2147483647)]) ?hr rfl ⟨rfl,?A7⟩;case hr=>
   simp [results,cP,go_sem]
  case A7=>
   exact Ie
theorem akY (xl xh yl yh:Int) (w:World) (hx1 : -2147483648≤xl) (hx2:xl≤2147483647) (hx3 : -2147483648≤xh) (hx4:xh≤2147483647) (hy1 : -2147483648≤yl) (hy2:yl≤2147483647) (hy3 : -2147483648≤yh) (hy4:yh≤2147483647) (he:xl≤xh) (he':yl≤yh) :
  Calls Tryz.prog 145 #[.agg #[.int .i32 xl,.int .i32 xh],.agg #[.int .i32 yl,.int .i32 yh]] w fun e w'=>e=.returned (.agg #[.int .i32 (Pz (xl,xh) (yl,yh)).1,.int .i32 (Pz (xl,xh) (yl,yh)).2])∧Below w.heap.size w w':=by
 by_cases z:yl=0∧yh=0
 ·refine (amO xl xh yl yh w (by simpa using z) trivial trivial).mono fun e' w' ⟨q,hb⟩=>⟨q.trans ?_,hb⟩
  rw [Pz,AE z]
 ·have nz:(yl==0 && yh==0)=false:=by simpa using z
  have nz':yl<0∨0<yh:=by omega
  by_cases b:(xl≤-2147483648∧-2147483648≤xh)∧(yl≤-1∧-1≤yh)
  ·refine (anF xl xh yl yh w nz (A3 (by simpa using b.1)) (A3 (by simpa using b.2))).mono fun e' w' ⟨q,hb⟩=>⟨q.trans ?_,hb⟩
   rw [Pz,A9 z,AE b]
  ·have ev:Pz (xl,xh) (yl,yh)=Az (Ya (xl,xh) (yl,yh)):=by rw [Pz,A9 z,A9 b]
   rw [ev];have Mc:Hid ((decide (xl≤-2147483648) && decide (-2147483648≤xh))=false)∨Hid ((decide (xl≤-2147483648) && decide (-2147483648≤xh))=true)∧Hid ((decide (yl≤-1) && decide (-1≤yh))=false):=by
    by_cases bx:xl≤-2147483648∧-2147483648≤xh
    ·have by':¬(yl≤-1∧-1≤yh):=fun h=>b ⟨bx,h⟩
     exact .inr ⟨A3 (by simpa using bx),A3 (by simpa using by')⟩
    ·exact .inl (A3 (by simpa using bx))
   by_cases c1:yl<0
   ·by_cases c2:0<yh
    ·refine (apY xl xh yl yh w hx1 hx2 hx3 hx4 hy1 hy2 hy3 hy4 (min yh (-1)) (max yl 1) (A3 rfl) (A3 rfl) Mc nz A0 A0 A0 A0 A0 A0 A0 A0 (A3 J3) (A3 J3)).mono fun e' w' ⟨q,hb⟩=>⟨q.trans (iJ (congrArg Az ?_)),hb⟩
     simp [Ya,divC,c1,c2]
    ·refine (amh xl xh yl yh w hx1 hx2 hx3 hx4 hy1 hy2 hy3 hy4 (min yh (-1)) (max yl 1) (A3 rfl) (A3 rfl) Mc nz A0 A0 A0 A0 A0 A0 A0 (A3 J3) (A3 J3)).mono fun e' w' ⟨q,hb⟩=>⟨q.trans (iJ (congrArg Az ?_)),hb⟩
     simp [Ya,divC,c1,c2]
   ·have c2:0<yh:=by omega
    refine (xM xl xh yl yh w hx1 hx2 hx3 hx4 hy1 hy2 hy3 hy4 (min yh (-1)) (max yl 1) (A3 rfl) (A3 rfl) Mc nz A0 A0 A0 A0 A0 A0 A0 (A3 J3) (A3 J3)).mono fun e' w' ⟨q,hb⟩=>⟨q.trans (iJ (congrArg Az ?_)),hb⟩;simp [Ya,divC,c1,c2]
def Ip (op:Int) (x y:Int×Int):Int×Int:=
 if op=6 then Az [x.1+y.1,x.1+y.2,x.2+y.1,x.2+y.2] else if op=7 then Az [x.1 - y.1,x.1 - y.2,x.2 - y.1,x.2 - y.2]
 else if op=8 then Az [x.1*y.1,x.1*y.2,x.2*y.1,x.2*y.2] else if op=9 then Pz x y else if op=10 then FB x y
 else if op≤13 then Nz op x y else if op≤15 then N9 op x y else if op≤21 then XM op x y else XQ op x y
theorem anY (op xl xh yl yh:Int) (w:World) (hx1 : -2147483648≤xl) (hx2:xl≤2147483647) (hx3 : -2147483648≤xh) (hx4:xh≤2147483647) (hy1 : -2147483648≤yl) (hy2:yl≤2147483647) (hy3 : -2147483648≤yh) (hy4:yh≤2147483647) (hop:op=9∨(11≤op∧op≤23)) (E9:xl≤xh) (Eh:yl≤yh) (hs:¬(xl=xh∧yl=yh)) :
  Calls Tryz.prog 131 #[.int .u8 op,.agg #[.int .i32 xl,.int .i32 xh],.agg #[.int .i32 yl,.int .i32 yh]] w fun e w'=>e=.returned (.agg #[.int .i32 (Ip op (xl,xh) (yl,yh)).1,.int .i32 (Ip op (xl,xh) (yl,yh)).2])∧Below w.heap.size w w':=by
 obtain⟨g1,hg1⟩:∃g,(Ip op (xl,xh) (yl,yh)).1=g:=⟨_,rfl⟩;obtain⟨g2,hg2⟩:∃g,(Ip op (xl,xh) (yl,yh)).2=g:=⟨_,rfl⟩;have HD:=A3 (fun (h:op=9) (W:World)=>show Calls Tryz.prog 145 #[.agg #[.int .i32 xl,.int .i32 xh],.agg #[.int .i32 yl,.int .i32 yh]] W fun e w'=>e=.returned (.agg #[.int .i32 g1,.int .i32 g2])∧Below W.heap.size W w' by
  have hc:=akY xl xh yl yh W hx1 hx2 hx3 hx4 hy1 hy2 hy3 hy4 E9 Eh;rw [show Pz (xl,xh) (yl,yh)=Ip op (xl,xh) (yl,yh) by unfold Ip;rw [A9 A0,A9 A0,A9 A0,AE h],hg1,hg2] at hc
  exact hc)
 have HB:=A3 (fun (h:11≤op∧op≤13) (W:World)=>show Calls Tryz.prog 147 #[.int .u8 op,.agg #[.int .i32 xl,.int .i32 xh],.agg #[.int .i32 yl,.int .i32 yh]] W fun e w'=>e=.returned (.agg #[.int .i32 g1,.int .i32 g2])∧Below W.heap.size W w' by
  have hc:=amR op xl xh yl yh W hx3 hx4 hy3 hy4 h.1 h.2 E9 Eh;rw [show Nz op (xl,xh) (yl,yh)=Ip op (xl,xh) (yl,yh) by unfold Ip;rw [A9 A0,A9 A0,A9 A0,A9 A0,A9 A0,AE A0],hg1,hg2] at hc
  exact hc)
 have HS:=A3 (fun (h:14≤op∧op≤15) (W:World)=>show Calls Tryz.prog 148 #[.int .u8 op,.agg #[.int .i32 xl,.int .i32 xh],.agg #[.int .i32 yl,.int .i32 yh]] W fun e w'=>e=.returned (.agg #[.int .i32 g1,.int .i32 g2])∧Below W.heap.size W w' by
  have hc:=yS op xl xh yl yh W hx1 hx2 hx3 hx4 hy1 hy2 h.1 h.2;rw [show N9 op (xl,xh) (yl,yh)=Ip op (xl,xh) (yl,yh) by unfold Ip;rw [A9 A0,A9 A0,A9 A0,A9 A0,A9 A0,A9 A0,AE A0],hg1,hg2] at hc
  exact hc)
 have HC:=A3 (fun (h:16≤op∧op≤21) (W:World)=>show Calls Tryz.prog 150 #[.int .u8 op,.agg #[.int .i32 xl,.int .i32 xh],.agg #[.int .i32 yl,.int .i32 yh]] W fun e w'=>e=.returned (.agg #[.int .i32 g1,.int .i32 g2])∧Below W.heap.size W w' by
  have hc:=zA op xl xh yl yh W h.1 h.2;rw [show XM op (xl,xh) (yl,yh)=Ip op (xl,xh) (yl,yh) by unfold Ip;rw [A9 A0,A9 A0,A9 A0,A9 A0,A9 A0,A9 A0,A9 A0,AE A0],hg1,hg2] at hc
  exact hc)
 have HL:=A3 (fun (h:22≤op∧op≤23) (W:World)=>show Calls Tryz.prog 149 #[.int .u8 op,.agg #[.int .i32 xl,.int .i32 xh],.agg #[.int .i32 yl,.int .i32 yh]] W fun e w'=>e=.returned (.agg #[.int .i32 g1,.int .i32 g2])∧Below W.heap.size W w' by
  have hc:=ao0 op xl xh yl yh W h.1 h.2;rw [show XQ op (xl,xh) (yl,yh)=Ip op (xl,xh) (yl,yh) by unfold Ip;rw [A9 A0,A9 A0,A9 A0,A9 A0,A9 A0,A9 A0,A9 A0,A9 A0],hg1,hg2] at hc
  exact hc)
 have⟨Ek,H6⟩:=AL hg1 hg2;have d1:decide (xh<xl)=false:=by simp;omega
 have d2:decide (yh<yl)=false:=by simp;omega
 have hq:(xl==xh)=false∨((xl==xh)=true∧(yl==yh)=false):=by simp;omega
 have h13:op=9∨op=11∨op=12∨op=13∨op=14∨op=15∨op=16∨op=17∨op=18∨op=19∨op=20∨op=21∨op=22∨op=23:=by omega
 clear hg1 hg2 E9 Eh hs hop;rcases h13 with rfl|rfl|rfl|rfl|rfl|rfl|rfl|rfl|rfl|rfl|rfl|rfl|rfl|rfl<;>rcases hq with hq|⟨hq,hq2⟩;all_goals
  go_enter Lf,LP;go_wp2_with (first|(go_at_call 127;((first|(with_reducible refine (Calls.AQ (Ax _ _ _)).mono ?_)|(refine (Calls.ext (Ax _ _ _)).mono ?_));rintro e _ ⟨rfl,y,rfl⟩))|(go_at_call 143;((first|(with_reducible refine (Calls.AQ (Dd _ _ _)).mono ?_)|(refine (Calls.ext (Dd _ _ _)).mono ?_));rintro e _ ⟨rfl,y,rfl⟩))|(go_at_call 145;((first|(with_reducible refine (Calls.AQ (HD.out AK _)).mono ?_)|(refine (Calls.ext (HD.out AK _)).mono ?_));rintro e _ ⟨rfl,y,rfl⟩))|(go_at_call 147;((first|(with_reducible refine (Calls.AQ (HB.out AK _)).mono ?_)|(refine (Calls.ext (HB.out AK _)).mono ?_));rintro e _ ⟨rfl,y,rfl⟩))|(go_at_call 148;((first|(with_reducible refine (Calls.AQ (HS.out AK _)).mono ?_)|(refine (Calls.ext (HS.out AK _)).mono ?_));rintro e _ ⟨rfl,y,rfl⟩))|(go_at_call 150;((first|(with_reducible refine (Calls.AQ (HC.out AK _)).mono ?_)|(refine (Calls.ext (HC.out AK _)).mono ?_));rintro e _ ⟨rfl,y,rfl⟩))|(go_at_call 149;((first|(with_reducible refine (Calls.AQ (HL.out AK _)).mono ?_)|(refine (Calls.ext (HL.out AK _)).mono ?_));rintro e _ ⟨rfl,y,rfl⟩)));all_goals
   refine Al (v:=.agg #[.int .i32 g1,.int .i32 g2]) ?hr rfl ⟨by rw [Ek.out,H6.out],?A7⟩;case hr=>
    simp [results,Kt,go_sem]
   case A7=>
    exact Ie
theorem aol (op xl xh yl yh:Int) (w:World) (h:op<6) :
  Calls Tryz.prog 131 #[.int .u8 op,.agg #[.int .i32 xl,.int .i32 xh],.agg #[.int .i32 yl,.int .i32 yh]] w fun e w'=>e=.returned (.agg #[.int .i32 (-2147483648),.int .i32 2147483647])∧Below w.heap.size w w':=by
 go_enter Lf,LP;go_wp2_with (first|(go_at_call 133;((first|(with_reducible refine (Calls.AQ (FD _)).mono ?_)|(refine (Calls.ext (FD _)).mono ?_));rintro e _ ⟨rfl,y,rfl⟩)));all_goals
  refine Al (v:=.agg #[.int .i32 (-2147483648),.int .i32 2147483647]) ?hr rfl ⟨rfl,?A7⟩;case hr=>
   simp [results,Kt,go_sem]
  case A7=>
   exact Ie
theorem yE (op xl xh yl yh:Int) (w:World) (h:23<op) :
  Calls Tryz.prog 131 #[.int .u8 op,.agg #[.int .i32 xl,.int .i32 xh],.agg #[.int .i32 yl,.int .i32 yh]] w fun e w'=>e=.returned (.agg #[.int .i32 (-2147483648),.int .i32 2147483647])∧Below w.heap.size w w':=by
 have d1:decide (op<6)=false:=by simp;omega
 go_enter Lf,LP;go_wp2_with (first|(go_at_call 133;((first|(with_reducible refine (Calls.AQ (FD _)).mono ?_)|(refine (Calls.ext (FD _)).mono ?_));rintro e _ ⟨rfl,y,rfl⟩)));all_goals
  refine Al (v:=.agg #[.int .i32 (-2147483648),.int .i32 2147483647]) ?hr rfl ⟨rfl,?A7⟩;case hr=>
   simp [results,Kt,go_sem]
  case A7=>
   exact Ie
theorem aq5 (op xl xh yl yh:Int) (w:World) (h1:6≤op) (h2:op≤23) (h:xh<xl) :
  Calls Tryz.prog 131 #[.int .u8 op,.agg #[.int .i32 xl,.int .i32 xh],.agg #[.int .i32 yl,.int .i32 yh]] w fun e w'=>e=.returned (.agg #[.int .i32 1,.int .i32 0])∧Below w.heap.size w w':=by
 have d1:decide (op<6)=false:=by simp;omega
 have d2:decide (23<op)=false:=by simp;omega
 go_enter Lf,LP;go_wp2_with (first|(go_at_call 127;((first|(with_reducible refine (Calls.AQ (Ax _ _ _)).mono ?_)|(refine (Calls.ext (Ax _ _ _)).mono ?_));rintro e _ ⟨rfl,y,rfl⟩))|(go_at_call 128;((first|(with_reducible refine (Calls.AQ (Bo _)).mono ?_)|(refine (Calls.ext (Bo _)).mono ?_));rintro e _ ⟨rfl,y,rfl⟩)));all_goals
  refine Al (v:=.agg #[.int .i32 1,.int .i32 0]) ?hr rfl ⟨rfl,?A7⟩;case hr=>
   simp [results,Kt,go_sem]
  case A7=>
   exact Ie
theorem ahO (op xl xh yl yh:Int) (w:World) (h1:6≤op) (h2:op≤23) (h:¬xh<xl) (h':yh<yl) :
  Calls Tryz.prog 131 #[.int .u8 op,.agg #[.int .i32 xl,.int .i32 xh],.agg #[.int .i32 yl,.int .i32 yh]] w fun e w'=>e=.returned (.agg #[.int .i32 1,.int .i32 0])∧Below w.heap.size w w':=by
 have d1:decide (op<6)=false:=by simp;omega
 have d2:decide (23<op)=false:=by simp;omega
 have d3:decide (xh<xl)=false:=by simpa using h
 go_enter Lf,LP;go_wp2_with (first|(go_at_call 127;((first|(with_reducible refine (Calls.AQ (Ax _ _ _)).mono ?_)|(refine (Calls.ext (Ax _ _ _)).mono ?_));rintro e _ ⟨rfl,y,rfl⟩))|(go_at_call 128;((first|(with_reducible refine (Calls.AQ (Bo _)).mono ?_)|(refine (Calls.ext (Bo _)).mono ?_));rintro e _ ⟨rfl,y,rfl⟩)));all_goals
  refine Al (v:=.agg #[.int .i32 1,.int .i32 0]) ?hr rfl ⟨rfl,?A7⟩;case hr=>
   simp [results,Kt,go_sem]
  case A7=>
   exact Ie
theorem aog (op n m:Int) (w:World) (h1:6≤op) (h2:op≤23) (hn:Ae n) (hm:Ae m) (we0:(we op m != 0)=false) :
  Calls Tryz.prog 131 #[.int .u8 op,.agg #[.int .i32 n,.int .i32 n],.agg #[.int .i32 m,.int .i32 m]] w fun e w'=>e=.returned (.agg #[.int .i32 (wv op n m),.int .i32 (wv op n m)])∧Below w.heap.size w w':=by
 have d1:decide (op<6)=false:=by simp;omega
 have d2:decide (23<op)=false:=by simp;omega
 go_enter Lf,LP;go_wp2_with (first|(go_at_call 127;((first|(with_reducible refine (Calls.AQ (Ax _ _ _)).mono ?_)|(refine (Calls.ext (Ax _ _ _)).mono ?_));rintro e _ ⟨rfl,y,rfl⟩))|(go_at_call 143;((first|(with_reducible refine (Calls.AQ (Dd _ _ _)).mono ?_)|(refine (Calls.ext (Dd _ _ _)).mono ?_));rintro e _ ⟨rfl,y,rfl⟩))|(go_at_call 128;((first|(with_reducible refine (Calls.AQ (Bo _)).mono ?_)|(refine (Calls.ext (Bo _)).mono ?_));rintro e _ ⟨rfl,y,rfl⟩))|(go_at_call 130;((first|(with_reducible refine (Calls.AQ (EG _ _)).mono ?_)|(refine (Calls.ext (EG _ _)).mono ?_));rintro e _ ⟨rfl,y,rfl⟩))|(go_at_call 95;refine (Calls.We (tF _ _ _ _ hn hm)).mono ?_;rintro e _ ⟨rfl,y,rfl⟩));all_goals
  refine Al (v:=.agg #[.int .i32 (wv op n m),.int .i32 (wv op n m)]) ?hr rfl ⟨rfl,?A7⟩;case hr=>
   simp [results,Kt,go_sem]
  case A7=>
   exact Ie
theorem aqo (op n m:Int) (w:World) (h1:6≤op) (h2:op≤23) (hn:Ae n) (hm:Ae m) (we0:(we op m != 0)=true) :
  Calls Tryz.prog 131 #[.int .u8 op,.agg #[.int .i32 n,.int .i32 n],.agg #[.int .i32 m,.int .i32 m]] w fun e w'=>e=.returned (.agg #[.int .i32 1,.int .i32 0])∧Below w.heap.size w w':=by
 have d1:decide (op<6)=false:=by simp;omega
 have d2:decide (23<op)=false:=by simp;omega
 go_enter Lf,LP;go_wp2_with (first|(go_at_call 127;((first|(with_reducible refine (Calls.AQ (Ax _ _ _)).mono ?_)|(refine (Calls.ext (Ax _ _ _)).mono ?_));rintro e _ ⟨rfl,y,rfl⟩))|(go_at_call 143;((first|(with_reducible refine (Calls.AQ (Dd _ _ _)).mono ?_)|(refine (Calls.ext (Dd _ _ _)).mono ?_));rintro e _ ⟨rfl,y,rfl⟩))|(go_at_call 128;((first|(with_reducible refine (Calls.AQ (Bo _)).mono ?_)|(refine (Calls.ext (Bo _)).mono ?_));rintro e _ ⟨rfl,y,rfl⟩))|(go_at_call 130;((first|(with_reducible refine (Calls.AQ (EG _ _)).mono ?_)|(refine (Calls.ext (EG _ _)).mono ?_));rintro e _ ⟨rfl,y,rfl⟩))|(go_at_call 95;refine (Calls.We (tF _ _ _ _ hn hm)).mono ?_;rintro e _ ⟨rfl,y,rfl⟩));all_goals
  refine Al (v:=.agg #[.int .i32 1,.int .i32 0]) ?hr rfl ⟨rfl,?A7⟩;case hr=>
   simp [results,Kt,go_sem]
  case A7=>
   exact Ie
def EX (op:Int) (x y:Int×Int):Int×Int:=
 if op<6∨23<op then (-2147483648,2147483647) else if x.2<x.1∨y.2<y.1 then (1,0)
 else if x.1=x.2∧y.1=y.2 then (if we op y.1=0 then (wv op x.1 y.1,wv op x.1 y.1) else (1,0))
 else Ip op x y
theorem lM (op xl xh yl yh:Int) (w:World) (hx1 : -2147483648≤xl) (hx2:xl≤2147483647) (hx3 : -2147483648≤xh) (hx4:xh≤2147483647) (hy1 : -2147483648≤yl) (hy2:yl≤2147483647) (hy3 : -2147483648≤yh) (hy4:yh≤2147483647) :
  Calls Tryz.prog 131 #[.int .u8 op,.agg #[.int .i32 xl,.int .i32 xh],.agg #[.int .i32 yl,.int .i32 yh]] w fun e w'=>e=.returned (.agg #[.int .i32 (EX op (xl,xh) (yl,yh)).1,.int .i32 (EX op (xl,xh) (yl,yh)).2])∧Below w.heap.size w w':=by
 by_cases o1:op<6
 ·refine (aol op xl xh yl yh w o1).mono fun e w' ⟨q,hb⟩=>⟨q.trans ?_,hb⟩
  rw [EX,AE (.inl o1)]
 by_cases o2:23<op
 ·refine (yE op xl xh yl yh w o2).mono fun e w' ⟨q,hb⟩=>⟨q.trans ?_,hb⟩
  rw [EX,AE (.inr o2)]
 have no:¬(op<6∨23<op):=by omega
 by_cases e1:xh<xl
 ·refine (aq5 op xl xh yl yh w A0 A0 e1).mono fun e w' ⟨q,hb⟩=>⟨q.trans ?_,hb⟩
  rw [EX,A9 no,AE (.inl e1)]
 by_cases e2:yh<yl
 ·refine (ahO op xl xh yl yh w A0 A0 e1 e2).mono fun e w' ⟨q,hb⟩=>⟨q.trans ?_,hb⟩
  rw [EX,A9 no,AE (.inr e2)]
 have ne:¬(xh<xl∨yh<yl):=by omega
 by_cases s:xl=xh∧yl=yh
 ·obtain⟨rfl,rfl⟩:=s
  by_cases k:we op yl=0
  ·refine (aog op xl yl w A0 A0 ⟨hx1,hx2⟩ ⟨hy1,hy2⟩ (by simpa using k)).mono fun e w' ⟨q,hb⟩=>⟨q.trans ?_,hb⟩
   rw [EX,A9 no,A9 ne,AE ⟨rfl,rfl⟩,AE k]
  ·refine (aqo op xl yl w A0 A0 ⟨hx1,hx2⟩ ⟨hy1,hy2⟩ (by simpa using k)).mono fun e w' ⟨q,hb⟩=>⟨q.trans ?_,hb⟩
   rw [EX,A9 no,A9 ne,AE ⟨rfl,rfl⟩,A9 k]
 ·have ev:EX op (xl,xh) (yl,yh)=Ip op (xl,xh) (yl,yh):=by rw [EX,A9 no,A9 ne,A9 s]
  rw [ev];by_cases hm:op=9∨(11≤op∧op≤23)
  ·exact anY op xl xh yl yh w hx1 hx2 hx3 hx4 hy1 hy2 hy3 hy4 hm A0 A0 s
  have h4:op=6∨op=7∨op=8∨op=10:=by omega
  rcases h4 with rfl|rfl|rfl|rfl
  ·exact ap2 xl xh yl yh w hx1 hx2 hx3 hx4 hy1 hy2 hy3 hy4 A0 A0 s
  ·exact aqG xl xh yl yh w hx1 hx2 hx3 hx4 hy1 hy2 hy3 hy4 A0 A0 s
  ·exact anV xl xh yl yh w hx1 hx2 hx3 hx4 hy1 hy2 hy3 hy4 A0 A0 s
  ·exact aqR xl xh yl yh w hx1 hx2 hx3 hx4 hy1 hy2 hy3 hy4 A0 A0 s
section
theorem zi (x y:Int×Int):(x.2<x.1∧y.2<y.1∧CN x y=(1,0))∨(x.2<x.1∧¬y.2<y.1∧CN x y=y)∨(¬x.2<x.1∧y.2<y.1∧CN x y=x)∨(¬x.2<x.1∧¬y.2<y.1∧CN x y=(min x.1 y.1,max x.2 y.2)):=by
 by_cases h1:x.2<x.1<;>by_cases h2:y.2<y.1<;>simp [CN,emp,h1,h2]
theorem within_iff (x y:Int×Int):jg x y=true↔(x.2<x.1∨(y.1≤x.1∧x.2≤y.2)):=by
 simp [jg,emp]
theorem aoz (x y:Int×Int):jg x (CN x y)=true:=by
 rw [within_iff];rcases zi x y with⟨h1,h2,h⟩|⟨h1,h2,h⟩|⟨h1,h2,h⟩|⟨h1,h2,h⟩<;>rw [h]<;>(try dsimp only)<;>omega
def Mem (v:Int) (z:Int×Int):Prop:=z.1≤v∧v≤z.2
def Vk (v:Int) (l:List Int):Prop:=∃p q,p∈l∧q∈l∧p≤v∧v≤q
theorem wu (v:Int):Ae (wrap32 v):=by unfold Ae wrap32;omega
theorem acn (l:List Int):∀a:Int,l.foldl min a≤a∧∀x∈l,l.foldl min a≤x:=by
 induction l with
 | nil=>intro a;exact⟨JE _,fun x h=>by cases h⟩
 | cons y l ih=>
  intro a;have h:=ih (min a y);simp only [Me];refine⟨by omega,fun x hx=>?_⟩;rcases Di.1 hx with rfl|hx
  ·omega
  ·exact h.2 x hx
theorem anP (l:List Int):∀a:Int,a≤l.foldl max a∧∀x∈l,x≤l.foldl max a:=by
 induction l with
 | nil=>intro a;exact⟨JE _,fun x h=>by cases h⟩
 | cons y l ih=>
  intro a;have h:=ih (max a y);simp only [Me];refine⟨by omega,fun x hx=>?_⟩;rcases Di.1 hx with rfl|hx
  ·omega
  ·exact h.2 x hx
theorem wA {l:List Int} (h:l≠[]):nth l 0∈l:=by
 cases l with
 | nil=>exact absurd rfl h
 | cons a l=>simp [nth]
theorem aml {l:List Int} {x:Int} (h:x∈l):N3 l≤x:=(acn l _).2 x h
theorem aiy {l:List Int} {x:Int} (h:x∈l):x≤LK l:=(anP l _).2 x h
theorem acJ (l:List Int):Az l=(-2147483648,2147483647)∨(Az l=(N3 l,LK l)∧-2147483648≤N3 l∧LK l≤2147483647):=by
 unfold Az;split
 ·exact .inl rfl
 ·exact .inr ⟨rfl,by omega,by omega⟩
theorem Vk.left {v:Int} {l m:List Int} (h:Vk v l):Vk v (l++m):=by
 obtain⟨p,q,hp,hq,h⟩:=h;exact⟨p,q,Ty _ hp,Ty _ hq,h⟩
theorem Vk.right {v:Int} {l m:List Int} (h:Vk v m):Vk v (l++m):=by
 obtain⟨p,q,hp,hq,h⟩:=h;exact⟨p,q,List.mem_append_right _ hp,List.mem_append_right _ hq,h⟩
theorem aob (n:Nat):(0:Int)<2 ^ n:=by have:=(Zx n n (AH _)).1;omega
theorem apZ (a:Int) (n:Nat):(0≤a→0≤a / 2 ^ n∧a / 2 ^ n≤a)∧(a<0→a≤a / 2 ^ n∧a / 2 ^ n<0):=by
 have hp:=aob n;constructor
 ·intro h
  exact⟨Int.ediv_nonneg h A0,Int.ediv_le_self _ h⟩
 ·intro h
  refine⟨?_,Int.ediv_neg_of_neg_of_pos h hp⟩;rw [Int.le_ediv_iff_mul_le hp];have:=Int.mul_le_mul_of_nonpos_left (a:=a) (b:=2 ^ n) (c:=1) A0 A0;rw [Int.mul_one] at this;exact this
theorem yj (op:BinOp) (a b:Int):bits op .i32 a b=wrap32 ((match op with
  | .and=>BitVec.ofInt 32 a &&& BitVec.ofInt 32 b
  | .or=>BitVec.ofInt 32 a ||| BitVec.ofInt 32 b
  | .xor=>BitVec.ofInt 32 a ^^^ BitVec.ofInt 32 b
  | _=>BitVec.ofInt 32 a &&& ~~~(BitVec.ofInt 32 b)).toNat:Nat):=by
 have w:∀n:Int,IntKind.i32.wrap n=wrap32 n:=fun n=>by rw [IntKind.wrap_i32,wrap32]
 rw [←w];cases op<;>rfl
theorem apJ:∀(f x:Nat),x<2 ^ f→x<2 ^ Lib.bitLenAux f x:=by
 intro f;induction f with
 | zero=>intro x h;simpa [Lib.bitLenAux] using h
 | succ f ih=>
  intro x h;unfold Lib.bitLenAux;split
  ·rename_i e;subst e;exact Nat.one_pos
  ·have:=ih (x / 2) (by rw [Nat.pow_succ] at h;omega)
   rw [Uh,Nat.pow_succ];omega
theorem aom:∀(f x y:Nat),x≤y→Lib.bitLenAux f x≤Lib.bitLenAux f y:=by
 intro f;induction f with
 | zero=>intro x y _;exact AH _
 | succ f ih=>
  intro x y h;unfold Lib.bitLenAux;by_cases hx:x=0
  ·rw [AE hx];exact Ck _
  ·rw [A9 hx,A9 A0]
   have:=ih (x / 2) (y / 2) (Nat.div_le_div_right h);omega
theorem xg {n:Int} (h0:0≤n) (h1:n≤2147483647):n≤KC n:=by
 have:=apJ 64 n.toNat A0;unfold KC Lib.bitLen;have e:((2 ^ Lib.bitLenAux 64 n.toNat:Nat):Int)=2 ^ Lib.bitLenAux 64 n.toNat:=by simp
 omega
theorem adt {n m:Int} (h:n≤m):KC n≤KC m:=by
 have:=(Zx _ _ (aom 64 n.toNat m.toNat A0)).2;unfold KC Lib.bitLen;omega
theorem amS (op:BinOp) (a b:Int):Ae (bits op .i32 a b):=by rw [yj];exact wu _
def Sub (x y:Int×Int):Prop:=x.2<x.1∨(y.1≤x.1∧x.2≤y.2)
section
variable {x y x' y':Int×Int} (hx:x.1≤x.2) (hy:y.1≤y.2) (sx:x'.1≤x.1∧x.2≤x'.2) (sy:y'.1≤y.1∧y.2≤y'.2)
include hx hy sx sy
end
end
section
theorem BR {w:World} {b:Nat} {o:Obj} (h:w.heap[b]?=some o):b<w.heap.size:=(Be.1 h).1
structure Fr (S:Nat→Prop) (w w':World):Prop where
 os:w'.os=w.os
 tape:w'.tape=w.tape
 output:w'.output=w.output
 size:w.heap.size≤w'.heap.size
 block:∀k,k<w.heap.size→¬S k→w'.heap[k]?=w.heap[k]?
theorem Fr.refl (S:Nat→Prop) (w:World):Fr S w w:=⟨rfl,rfl,rfl,AH _,fun _ _ _=>rfl⟩
theorem Fr.trans {S:Nat→Prop} {a b c:World} (h:Fr S a b) (k:Fr S b c):Fr S a c:=
 ⟨k.os.trans h.os,k.tape.trans h.tape,k.output.trans h.output,EM h.size k.size,fun i h1 h2=>(k.block i (Cq h1 h.size) h2).trans (h.block i h1 h2)⟩
theorem Fr.of {S:Nat→Prop} {w w':World} (h:Below w.heap.size w w'):Fr S w w':=⟨h.os,h.tape,h.output,h.size,fun k h1 _=>h.block k h1⟩
theorem Fr.mono {S S':Nat→Prop} {w w':World} (h:Fr S w w') (i:∀k,k<w.heap.size→S k→S' k):Fr S' w w':=⟨h.os,h.tape,h.output,h.size,fun k h1 h2=>h.block k h1 (fun h3=>h2 (i k h1 h3))⟩
theorem Fr.below {S:Nat→Prop} {w w':World} {B:Nat} (h:Fr S w w') (hB:B≤w.heap.size) (hS:∀k,S k→B≤k):Below B w w':=
 ⟨h.os,h.tape,h.output,h.size,fun k hk=>h.block k (Cq hk hB) (fun h3=>by have:=hS k h3;omega)⟩
theorem Fr.since {S S':Nat→Prop} {w0 w w':World} (h0:Fr S w0 w) (h:Fr S' w w') (i:∀k,S' k→S k∨w0.heap.size≤k):Fr S w0 w':=
 ⟨h.os.trans h0.os,h.tape.trans h0.tape,h.output.trans h0.output,EM h0.size h.size,fun k h1 h2=>(h.block k (Cq h1 h0.size) (fun h3=>by rcases i k h3 with h4|h4;exact h2 h4;omega)).trans (h0.block k h1 h2)⟩
theorem Fr.cell {S:Nat→Prop} {w w':World} (h:Fr S w w') {b:Nat} (o:Nat) (hb:b<w.heap.size) (hn:¬S b):w'.cell? ⟨b,o,none⟩=w.cell? ⟨b,o,none⟩:=Df (h.block b hb hn)
theorem Fr.set {S:Nat→Prop} {w w':World} {b o:Nat} (h:Fr S w w') (v:Value) (hp:S b∨w.heap.size≤b):Fr S w (w'.setCell ⟨b,o,none⟩ v):=
 ⟨h.os,h.tape,h.output,by simpa using h.size,fun k h1 h2=>by
  rw [BL _ _ _ _ (by show k≠b;rintro rfl;rcases hp with hp|hp;exact h2 hp;omega)]
  exact h.block k h1 h2⟩
theorem Fr.alloc {S:Nat→Prop} {w w':World} (h:Fr S w w') (o:Obj):Fr S w (w'.alloc o):=
 h.trans (Fr.of ((AP _ _).alloc (AH _) _))
theorem Fr.drew {S:Nat→Prop} {w w':World} (h:Fr S w w'):Fr S w w'.drew:=h.trans (Fr.of (Gg (AP _ _)))
theorem Fr.own {S:Nat→Prop} {w w':World} (h:Fr S w w') {B n size:Nat} {e:TypeId} {v:Value} {xs:List Value} (ho:w.ownsRow B e size v n xs) (hn:∀q,v.ownBlock=some q→¬S q):w'.ownsRow B e size v n xs:=by
 refine⟨ho.1,?_⟩;rcases ho.2 with h0|⟨g,cap,cur,rfl,hb,hk,hr⟩
 ·exact .inl h0
 ·exact .inr ⟨g,cap,cur,rfl,hb,(h.block g (BR hk) (hn g rfl)).trans hk,hr⟩
structure St where
 pc:Int
 r:List Int
 d:Value
 hal:Bool
 held:Int
def St.cells (s:St):Array Value:=(Value.int .i64 s.pc :: (s.r.map (Value.int .i32)++[s.d,.bool s.hal,.int .i64 s.held])).toArray
structure Ia (w:World) (sb:Nat) (s:St):Prop where
 blk:w.heap[sb]?=some (.cells s.cells 82 (0,0))
 len:s.r.length=16
 wd:∀x∈s.r,Ae x
section
variable {w:World} {sb:Nat} {s:St}
theorem Ia.lt (h:Ia w sb s):sb<w.heap.size:=BR h.blk
theorem Ia.keep {w':World} (h:Ia w sb s) (e:w'.heap[sb]?=w.heap[sb]?):Ia w' sb s:=⟨e.trans h.blk,h.len,h.wd⟩
theorem St.xV (hl:s.r.length=16) {k:Nat} (hk:k<16):s.cells[1+k]?=some (.int .i32 (s.r.getD k 0)):=by
 unfold St.cells;rw [Xv,Uh,List.getElem?_cons_succ,JJ Cl,Cr];simp [List.getD,Aj (show k<s.r.length by omega)]
theorem St.uP (hl:s.r.length=16) (k:Nat):s.cells[17+k]?=[s.d,.bool s.hal,.int .i64 s.held][k]?:=by
 unfold St.cells;rw [Xv,show 17+k=(16+k)+1 by omega,List.getElem?_cons_succ,J4 Cl];simp [hl]
theorem Ia.pc (h:Ia w sb s):w.cell? ⟨sb,0,none⟩=some (.int .i64 s.pc):=by simp [World.cell?,h.blk,St.cells]
theorem Ia.A8 (h:Ia w sb s) {k:Nat} (hk:k<16):w.cell? ⟨sb,1+k,none⟩=some (.int .i32 (s.r.getD k 0)):=by
 have:=St.xV h.len hk;simpa [World.cell?,h.blk] using this
theorem Ia.hal (h:Ia w sb s):w.cell? ⟨sb,18,none⟩=some (.bool s.hal):=by have:=St.uP h.len 1;simpa [World.cell?,h.blk] using this
theorem Ia.held (h:Ia w sb s):w.cell? ⟨sb,19,none⟩=some (.int .i64 s.held):=by have:=St.uP h.len 2;simpa [World.cell?,h.blk] using this
theorem Ia.fz (h:Ia w sb s) (o:Nat):w.frozen? ⟨sb,o,none⟩=false:=by simp [World.frozen?,h.blk]
end
theorem Ia.drew {w:World} {sb:Nat} {s:St} (h:Ia w sb s):Ia w.drew sb s:=h.keep rfl
end
end Go.Proofs.YtlmgkipmfgijiaaGreatDoor
