/-
  What is proved here: parts lBig.
-/
import Derived.Test.YtlmgkipmfgijiaaGreatDoorVa
import Derived.Test.YtlmgkipmfgijiaaGreatDoorVv
namespace Go.Proofs.YtlmgkipmfgijiaaGreatDoor
set_option linter.unusedVariables false
set_option linter.unusedSimpArgs false
set_option maxRecDepth 100000
set_option maxHeartbeats 8000000
open Go.RowKit
theorem aaT (CA EA:Option Addr) (n Cp m Cz:Nat) (sh lk:Int) (hn:4096<n) (w:World) :
  Calls Tryz.prog 30 #[.agg #[.slice CA n Cp,.slice EA m Cz,.int .i64 sh,.int .i64 lk]] w fun e w'=>e=.returned (.int .i64 2)∧Below w.heap.size w w':=by
 obtain⟨V,hV⟩:=AA (w.alloc (.cells #[.slice CA n Cp,.slice EA m Cz,.int .i64 sh,.int .i64 lk] 25));obtain⟨q,hq⟩:=AA w.heap.size;have bV:Below w.heap.size w V:=hV▸(AP _ _).alloc (AH _) _;have kV:V.heap[q]?=some (.cells #[.slice CA n Cp,.slice EA m Cz,.int .i64 sh,.int .i64 lk] 25 (0,0)):=by rw [←hq];exact hV▸Ai _ _
 obtain⟨c0,c1,c2,c3,c4⟩:=Ep kV;have BV:=A3 bV;have d1:decide ((4096:Int)<(n:Int))=true:=AR A0;have d2:decide (4096<n)=true:=AR A0;clear bV kV hn;go_enter ew,dR;go_wp2_with fail;go_ret;exact⟨by first|rfl|assumption,BV.out⟩
theorem aaD (CA EA:Option Addr) (n Cp m Cz:Nat) (sh lk task:Int) (hn:4096<n) (w:World) :
  Calls Tryz.prog 12 #[.agg #[.slice CA n Cp,.slice EA m Cz,.int .i64 sh,.int .i64 lk],.int .i64 task] w fun e w'=>e=.returned (.tuple #[.agg #[.slice none 0 0,.slice none 0 0],.int .i64 (-1),.int .i64 3])∧Below w.heap.size w w':=by
 obtain⟨V,hV,k2,k4,bV,sV⟩:=Pm w #[.slice CA n Cp,.slice EA m Cz,.int .i64 sh,.int .i64 lk] #[.slice none 0 0,.slice none 0 0] 25 31;obtain⟨q,hq⟩:=AA w.heap.size;obtain⟨q4,hq4⟩:∃q',q+1=q':=⟨_,rfl⟩;rw [hq,hq4] at k4;rw [hq] at k2;obtain⟨c0,c1,c2,c3,c4⟩:=Ep k2;have BV:=A3 bV;have K4:=A3 k4;have LQ:=A3 (show w.heap.size≤q4 by omega);have l4:q4<V.heap.size:=BR k4;have Qo:=A3 (aaT CA EA n Cp m Cz sh lk hn V);clear bV k2 k4 hn sV;go_enter Tryz.func12,Tryz.ntmps12;go_upto_region 2 with (go_at_call 30;refine Qo.out.mono ?_;rintro e W1 ⟨rfl,hb1⟩);have k4:=(hb1.block q4 l4).trans K4.out;have k41:(W1.setCell ⟨q4,0,none⟩ (.slice none 0 0)).heap[q4]?=some (.cells #[.slice none 0 0,.slice none 0 0] 31 (0,0)):=(Ej W1 q4 0 _ _ _ k4).trans rfl;have k42:((W1.setCell ⟨q4,0,none⟩ (.slice none 0 0)).setCell ⟨q4,1,none⟩ (.slice none 0 0)).heap[q4]?=some (.cells #[.slice none 0 0,.slice none 0 0] 31 (0,0)):=(Ej _ q4 1 _ _ _ k41).trans rfl;have f0:W1.cell? ⟨q4,0,none⟩=some (.slice none 0 0):=by simp [World.cell?,k4]
 have f1:W1.frozen? ⟨q4,0,none⟩=false:=by simp [World.frozen?,k4]
 have g0:(W1.setCell ⟨q4,0,none⟩ (.slice none 0 0)).cell? ⟨q4,1,none⟩=some (.slice none 0 0):=by simp [World.cell?,k41]
 have g1:(W1.setCell ⟨q4,0,none⟩ (.slice none 0 0)).frozen? ⟨q4,1,none⟩=false:=by simp [World.frozen?,k41]
 have l4W:=BR k4;obtain⟨Z,hZ⟩:=AA ((W1.setCell ⟨q4,0,none⟩ (.slice none 0 0)).setCell ⟨q4,1,none⟩ (.slice none 0 0));rw [hZ] at k42;have BZ:=A3 (show Below w.heap.size w Z from by
  rw [←hZ]
  exact ((BV.out.trans (hb1.mono BV.out.size)).setCell (p:=⟨q4,0,none⟩) LQ.out _).setCell (p:=⟨q4,1,none⟩) LQ.out _)
 have z0:Z.cell? ⟨q4,0,none⟩=some (.slice none 0 0):=by simp [World.cell?,k42]
 have z1:Z.cell? ⟨q4,1,none⟩=some (.slice none 0 0):=by simp [World.cell?,k42]
 clear hb1 k4 k41 k42 hV;go_wp2_with fail;exact Al (v:=.tuple #[.agg #[.slice none 0 0,.slice none 0 0],.int .i64 (-1),.int .i64 3]) fR rfl ⟨rfl,BZ.out⟩
end Go.Proofs.YtlmgkipmfgijiaaGreatDoor
