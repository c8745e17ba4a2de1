/-
  What is proved here: parts bIa, bIb.
-/
import Derived.Test.YtlmgkipmfgijiaaGreatDoorVa
import Derived.Test.YtlmgkipmfgijiaaGreatDoorVb
import Derived.Shelf.Small.Bits
import Derived.Test.YtlmgkipmfgijiaaGreatDoorProg
namespace Go.Proofs.YtlmgkipmfgijiaaGreatDoor
set_option linter.unusedVariables false
set_option linter.unusedSimpArgs false
set_option maxRecDepth 100000
set_option maxHeartbeats 8000000
open Go.RowKit
section
theorem Fa  (w:World) :
  Calls Tryz.prog 133 #[] w fun e w'=>e=.returned (.agg #[.int .i32 (-2147483648),.int .i32 2147483647])∧Below w.heap.size w w':=by
 go_enter Tryz.func133,Tryz.ntmps133
 go_wp2
 all_goals
  refine Af (v:=.agg #[.int .i32 (-2147483648),.int .i32 2147483647]) ?hr rfl ⟨rfl,?AA⟩;case hr=>
   simp [results,Tryz.results133,go_sem]
  case AA=>
   exact CH
theorem C9  (w:World) :
  Calls Tryz.prog 128 #[] w fun e w'=>e=.returned (.agg #[.int .i32 1,.int .i32 0])∧Below w.heap.size w w':=by
 go_enter Tryz.func128,Tryz.ntmps128
 go_wp2
 all_goals
  refine Af (v:=.agg #[.int .i32 1,.int .i32 0]) ?hr rfl ⟨rfl,?AA⟩;case hr=>
   simp [results,Tryz.results128,go_sem]
  case AA=>
   exact CH
theorem Ed (n:Int) (w:World) :
  Calls Tryz.prog 130 #[.int .i32 n] w fun e w'=>e=.returned (.agg #[.int .i32 n,.int .i32 n])∧Below w.heap.size w w':=by
 go_enter Tryz.func130,Tryz.ntmps130
 go_wp2
 all_goals
  refine Af (v:=.agg #[.int .i32 n,.int .i32 n]) ?hr rfl ⟨rfl,?AA⟩;case hr=>
   simp [results,Tryz.results130,go_sem]
  case AA=>
   exact CH
theorem Ar (xl xh:Int) (w:World) :
  Calls Tryz.prog 127 #[.agg #[.int .i32 xl,.int .i32 xh]] w fun e w'=>e=.returned (.bool (decide (xh<xl)))∧Below w.heap.size w w':=by
 go_enter Tryz.func127,Tryz.ntmps127
 go_wp2
 all_goals
  go_ret;refine⟨rfl,?_⟩;exact CH
theorem Dt (xl xh:Int) (w:World) :
  Calls Tryz.prog 143 #[.agg #[.int .i32 xl,.int .i32 xh]] w fun e w'=>e=.returned (.bool (xl==xh))∧Below w.heap.size w w':=by
 go_enter Tryz.func143,Tryz.ntmps143
 go_wp2
 all_goals
  go_ret;refine⟨rfl,?_⟩;exact CH
theorem N8 (xl xh n:Int) (w:World) :
  Calls Tryz.prog 153 #[.agg #[.int .i32 xl,.int .i32 xh],.int .i32 n] w fun e w'=>e=.returned (.bool (decide (xl≤n) && decide (n≤xh)))∧Below w.heap.size w w':=by
 by_cases h1:xl≤n
 ·have d1:decide (xl≤n)=true:=by simpa using h1
  go_enter Tryz.func153,Tryz.ntmps153
  go_wp2
  all_goals
   go_ret;refine⟨by simp [d1],?_⟩;exact CH
 ·have d1:decide (xl≤n)=false:=by simpa using h1
  go_enter Tryz.func153,Tryz.ntmps153
  go_wp2
  all_goals
   go_ret;refine⟨by simp,?_⟩;exact CH
def CR (a n:Bool):Int×Int:=if a then (1,1) else if n then (0,0) else (0,1)
theorem atB  (w:World) :
  Calls Tryz.prog 155 #[.bool true,.bool true] w fun e w'=>e=.returned (.agg #[.int .i32 (CR true true).1,.int .i32 (CR true true).2])∧Below w.heap.size w w':=by
 go_enter gG,gM;go_wp2_with (first|(go_at_call 130;((first|(with_reducible refine (Calls.AW (Ed _ _)).mono ?_)|(refine (Calls.ext (Ed _ _)).mono ?_));rintro e _ ⟨rfl,y,rfl⟩)));all_goals
  refine Af (v:=.agg #[.int .i32 (CR true true).1,.int .i32 (CR true true).2]) ?hr rfl ⟨rfl,?AA⟩;case hr=>
   simp [CR,results,l8,go_sem]
  case AA=>
   exact CH
theorem aaD  (w:World) :
  Calls Tryz.prog 155 #[.bool true,.bool false] w fun e w'=>e=.returned (.agg #[.int .i32 (CR true false).1,.int .i32 (CR true false).2])∧Below w.heap.size w w':=by
 go_enter gG,gM;go_wp2_with (first|(go_at_call 130;((first|(with_reducible refine (Calls.AW (Ed _ _)).mono ?_)|(refine (Calls.ext (Ed _ _)).mono ?_));rintro e _ ⟨rfl,y,rfl⟩)));all_goals
  refine Af (v:=.agg #[.int .i32 (CR true false).1,.int .i32 (CR true false).2]) ?hr rfl ⟨rfl,?AA⟩;case hr=>
   simp [CR,results,l8,go_sem]
  case AA=>
   exact CH
theorem aaP  (w:World) :
  Calls Tryz.prog 155 #[.bool false,.bool true] w fun e w'=>e=.returned (.agg #[.int .i32 (CR false true).1,.int .i32 (CR false true).2])∧Below w.heap.size w w':=by
 go_enter gG,gM;go_wp2_with (first|(go_at_call 130;((first|(with_reducible refine (Calls.AW (Ed _ _)).mono ?_)|(refine (Calls.ext (Ed _ _)).mono ?_));rintro e _ ⟨rfl,y,rfl⟩)));all_goals
  refine Af (v:=.agg #[.int .i32 (CR false true).1,.int .i32 (CR false true).2]) ?hr rfl ⟨rfl,?AA⟩;case hr=>
   simp [CR,results,l8,go_sem]
  case AA=>
   exact CH
theorem at0  (w:World) :
  Calls Tryz.prog 155 #[.bool false,.bool false] w fun e w'=>e=.returned (.agg #[.int .i32 (CR false false).1,.int .i32 (CR false false).2])∧Below w.heap.size w w':=by
 go_enter gG,gM;go_wp2_with (first|(go_at_call 130;((first|(with_reducible refine (Calls.AW (Ed _ _)).mono ?_)|(refine (Calls.ext (Ed _ _)).mono ?_));rintro e _ ⟨rfl,y,rfl⟩)));all_goals
  refine Af (v:=.agg #[.int .i32 (CR false false).1,.int .i32 (CR false false).2]) ?hr rfl ⟨rfl,?AA⟩;case hr=>
   simp [CR,results,l8,go_sem]
  case AA=>
   exact CH
theorem gX (a n:Bool) (w:World):Calls Tryz.prog 155 #[.bool a,.bool n] w fun e w'=>e=.returned (.agg #[.int .i32 (CR a n).1,.int .i32 (CR a n).2])∧Below w.heap.size w w':=by
 cases a<;>cases n
 ·exact at0 w
 ·exact aaP w
 ·exact aaD w
 ·exact atB w
def emp (x:Int×Int):Bool:=decide (x.2<x.1)
def Cc (x y:Int×Int):Int×Int:=if emp x then (if emp y then (1,0) else y) else if emp y then x else (min x.1 y.1,max x.2 y.2)
def Ao (x y:Int×Int):Int×Int:=if emp x || emp y || decide (min x.2 y.2<max x.1 y.1) then (1,0) else (max x.1 y.1,min x.2 y.2)
def aD (x y:Int×Int):Bool:=emp x || (decide (y.1≤x.1) && decide (x.2≤y.2))
def Bi (x y:Int×Int):Int×Int:=if emp x then (if emp y then (1,0) else y) else if emp y then x else (if y.1<x.1 then -2147483648 else x.1,if x.2<y.2 then 2147483647 else x.2)
theorem iF (xl xh yl yh:Int) (w:World) :
  Calls Tryz.prog 105 #[.agg #[.int .i32 xl,.int .i32 xh],.agg #[.int .i32 yl,.int .i32 yh]] w fun e w'=>e=.returned (.agg #[.int .i32 (Cc (xl,xh) (yl,yh)).1,.int .i32 (Cc (xl,xh) (yl,yh)).2])∧Below w.heap.size w w':=by
 by_cases hx:xh<xl
 ·have d1:decide (xh<xl)=true:=by simpa using hx
  by_cases hy:yh<yl
  ·have d2:decide (yh<yl)=true:=by simpa using hy
   have hf:Cc (xl,xh) (yl,yh)=(1,0):=by simp [Cc,emp,hx,hy]
   have HF:=A3 hf;clear hf;go_enter iO,jC;go_wp2_with (first|(go_at_call 127;((first|(with_reducible refine (Calls.AW (Ar _ _ _)).mono ?_)|(refine (Calls.ext (Ar _ _ _)).mono ?_));rintro e _ ⟨rfl,y,rfl⟩))|(go_at_call 128;((first|(with_reducible refine (Calls.AW (C9 _)).mono ?_)|(refine (Calls.ext (C9 _)).mono ?_));rintro e _ ⟨rfl,y,rfl⟩)));all_goals
    refine Af (v:=.agg #[.int .i32 (Cc (xl,xh) (yl,yh)).1,.int .i32 (Cc (xl,xh) (yl,yh)).2]) ?hr rfl ⟨rfl,?AA⟩;case hr=>
     simp [results,jE,go_sem];rw [HF.out];constructor<;>(try dsimp only)<;>omega
    case AA=>
     exact CH
  ·have d2:decide (yh<yl)=false:=by simpa using hy
   have hf:Cc (xl,xh) (yl,yh)=(yl,yh):=by simp [Cc,emp,hx,hy]
   have HF:=A3 hf;clear hf;go_enter iO,jC;go_wp2_with (first|(go_at_call 127;((first|(with_reducible refine (Calls.AW (Ar _ _ _)).mono ?_)|(refine (Calls.ext (Ar _ _ _)).mono ?_));rintro e _ ⟨rfl,y,rfl⟩))|(go_at_call 128;((first|(with_reducible refine (Calls.AW (C9 _)).mono ?_)|(refine (Calls.ext (C9 _)).mono ?_));rintro e _ ⟨rfl,y,rfl⟩)));all_goals
    refine Af (v:=.agg #[.int .i32 (Cc (xl,xh) (yl,yh)).1,.int .i32 (Cc (xl,xh) (yl,yh)).2]) ?hr rfl ⟨rfl,?AA⟩;case hr=>
     simp [results,jE,go_sem];rw [HF.out];constructor<;>(try dsimp only)<;>omega
    case AA=>
     exact CH
 ·have d1:decide (xh<xl)=false:=by simpa using hx
  by_cases hy:yh<yl
  ·have d2:decide (yh<yl)=true:=by simpa using hy
   have hf:Cc (xl,xh) (yl,yh)=(xl,xh):=by simp [Cc,emp,hx,hy]
   have HF:=A3 hf;clear hf;go_enter iO,jC;go_wp2_with (first|(go_at_call 127;((first|(with_reducible refine (Calls.AW (Ar _ _ _)).mono ?_)|(refine (Calls.ext (Ar _ _ _)).mono ?_));rintro e _ ⟨rfl,y,rfl⟩))|(go_at_call 128;((first|(with_reducible refine (Calls.AW (C9 _)).mono ?_)|(refine (Calls.ext (C9 _)).mono ?_));rintro e _ ⟨rfl,y,rfl⟩)));all_goals
    refine Af (v:=.agg #[.int .i32 (Cc (xl,xh) (yl,yh)).1,.int .i32 (Cc (xl,xh) (yl,yh)).2]) ?hr rfl ⟨rfl,?AA⟩;case hr=>
     simp [results,jE,go_sem];rw [HF.out];constructor<;>(try dsimp only)<;>omega
    case AA=>
     exact CH
  ·have d2:decide (yh<yl)=false:=by simpa using hy
   have hf:Cc (xl,xh) (yl,yh)=(min xl yl,max xh yh):=by simp [Cc,emp,hx,hy]
   have HF:=A3 hf;clear hf;go_enter iO,jC;go_wp2_with (first|(go_at_call 127;((first|(with_reducible refine (Calls.AW (Ar _ _ _)).mono ?_)|(refine (Calls.ext (Ar _ _ _)).mono ?_));rintro e _ ⟨rfl,y,rfl⟩))|(go_at_call 128;((first|(with_reducible refine (Calls.AW (C9 _)).mono ?_)|(refine (Calls.ext (C9 _)).mono ?_));rintro e _ ⟨rfl,y,rfl⟩)));all_goals
    refine Af (v:=.agg #[.int .i32 (Cc (xl,xh) (yl,yh)).1,.int .i32 (Cc (xl,xh) (yl,yh)).2]) ?hr rfl ⟨rfl,?AA⟩;case hr=>
     simp [results,jE,go_sem];rw [HF.out];constructor<;>(try dsimp only)<;>omega
    case AA=>
     exact CH
theorem xe (xl xh yl yh:Int) (hx:xh<xl) (hy:yh<yl) (w:World) :
  Calls Tryz.prog 106 #[.agg #[.int .i32 xl,.int .i32 xh],.agg #[.int .i32 yl,.int .i32 yh]] w fun e w'=>e=.returned (.agg #[.int .i32 (Bi (xl,xh) (yl,yh)).1,.int .i32 (Bi (xl,xh) (yl,yh)).2])∧Below w.heap.size w w':=by
 have hf:Bi (xl,xh) (yl,yh)=(1,0):=by simp [Bi,emp,hx,hy]
 have HF:=A3 hf;clear hf;go_enter Vi,Wm;go_wp2_with (first|(go_at_call 127;((first|(with_reducible refine (Calls.AW (Ar _ _ _)).mono ?_)|(refine (Calls.ext (Ar _ _ _)).mono ?_));rintro e _ ⟨rfl,y,rfl⟩))|(go_at_call 128;((first|(with_reducible refine (Calls.AW (C9 _)).mono ?_)|(refine (Calls.ext (C9 _)).mono ?_));rintro e _ ⟨rfl,y,rfl⟩)));all_goals
  refine Af (v:=.agg #[.int .i32 (Bi (xl,xh) (yl,yh)).1,.int .i32 (Bi (xl,xh) (yl,yh)).2]) ?hr rfl ⟨rfl,?AA⟩;case hr=>
   simp [results,VO,go_sem];rw [HF.out];constructor<;>(try dsimp only)<;>omega
  case AA=>
   exact CH
theorem ahI (xl xh yl yh:Int) (hx:xh<xl) (hy:¬yh<yl) (w:World) :
  Calls Tryz.prog 106 #[.agg #[.int .i32 xl,.int .i32 xh],.agg #[.int .i32 yl,.int .i32 yh]] w fun e w'=>e=.returned (.agg #[.int .i32 (Bi (xl,xh) (yl,yh)).1,.int .i32 (Bi (xl,xh) (yl,yh)).2])∧Below w.heap.size w w':=by
 have d2:decide (yh<yl)=false:=by simpa using hy
 have hf:Bi (xl,xh) (yl,yh)=(yl,yh):=by simp [Bi,emp,hx,hy]
 have HF:=A3 hf;clear hf;go_enter Vi,Wm;go_wp2_with (first|(go_at_call 127;((first|(with_reducible refine (Calls.AW (Ar _ _ _)).mono ?_)|(refine (Calls.ext (Ar _ _ _)).mono ?_));rintro e _ ⟨rfl,y,rfl⟩))|(go_at_call 128;((first|(with_reducible refine (Calls.AW (C9 _)).mono ?_)|(refine (Calls.ext (C9 _)).mono ?_));rintro e _ ⟨rfl,y,rfl⟩)));all_goals
  refine Af (v:=.agg #[.int .i32 (Bi (xl,xh) (yl,yh)).1,.int .i32 (Bi (xl,xh) (yl,yh)).2]) ?hr rfl ⟨rfl,?AA⟩;case hr=>
   simp [results,VO,go_sem];rw [HF.out];constructor<;>(try dsimp only)<;>omega
  case AA=>
   exact CH
theorem aro (xl xh yl yh:Int) (hx:¬xh<xl) (hy:yh<yl) (w:World) :
  Calls Tryz.prog 106 #[.agg #[.int .i32 xl,.int .i32 xh],.agg #[.int .i32 yl,.int .i32 yh]] w fun e w'=>e=.returned (.agg #[.int .i32 (Bi (xl,xh) (yl,yh)).1,.int .i32 (Bi (xl,xh) (yl,yh)).2])∧Below w.heap.size w w':=by
 have d1:decide (xh<xl)=false:=by simpa using hx
 have hf:Bi (xl,xh) (yl,yh)=(xl,xh):=by simp [Bi,emp,hx,hy]
 have HF:=A3 hf;clear hf;go_enter Vi,Wm;go_wp2_with (first|(go_at_call 127;((first|(with_reducible refine (Calls.AW (Ar _ _ _)).mono ?_)|(refine (Calls.ext (Ar _ _ _)).mono ?_));rintro e _ ⟨rfl,y,rfl⟩))|(go_at_call 128;((first|(with_reducible refine (Calls.AW (C9 _)).mono ?_)|(refine (Calls.ext (C9 _)).mono ?_));rintro e _ ⟨rfl,y,rfl⟩)));all_goals
  refine Af (v:=.agg #[.int .i32 (Bi (xl,xh) (yl,yh)).1,.int .i32 (Bi (xl,xh) (yl,yh)).2]) ?hr rfl ⟨rfl,?AA⟩;case hr=>
   simp [results,VO,go_sem];rw [HF.out];constructor<;>(try dsimp only)<;>omega
  case AA=>
   exact CH
theorem zY (xl xh yl yh:Int) (hx:¬xh<xl) (hy:¬yh<yl) (hl:yl<xl) (hh:xh<yh) (w:World) :
  Calls Tryz.prog 106 #[.agg #[.int .i32 xl,.int .i32 xh],.agg #[.int .i32 yl,.int .i32 yh]] w fun e w'=>e=.returned (.agg #[.int .i32 (Bi (xl,xh) (yl,yh)).1,.int .i32 (Bi (xl,xh) (yl,yh)).2])∧Below w.heap.size w w':=by
 have d1:decide (xh<xl)=false:=by simpa using hx
 have d2:decide (yh<yl)=false:=by simpa using hy
 have hf:Bi (xl,xh) (yl,yh)=(-2147483648,2147483647):=by simp [Bi,emp,hx,hy,hl,hh]
 have HF:=A3 hf;clear hf;go_enter Vi,Wm;go_wp2_with fail;refine (Calls.ext (Ar _ _ _)).mono ?_;rintro e _ ⟨rfl,y1,rfl⟩;go_wp2_with fail;refine (Calls.AW (Ar _ _ _)).mono ?_;rintro e _ ⟨rfl,y2,rfl⟩;go_wp2_with fail;refine (Calls.AW (Ar _ _ _)).mono ?_;rintro e _ ⟨rfl,y3,rfl⟩;have hz1:w.heap.size<y3.w.heap.size:=F7 JP y3.h.size;have hz2:w.heap.size+1<y3.w.heap.size:=F7 JP y3.h.size;have hz3:w.heap.size+1+1<y3.w.heap.size:=F7 JP y3.h.size
 go_wp2
 all_goals
  refine Af (v:=.agg #[.int .i32 (Bi (xl,xh) (yl,yh)).1,.int .i32 (Bi (xl,xh) (yl,yh)).2]) ?hr rfl ⟨rfl,?AA⟩;case hr=>
   simp [results,VO,go_sem];rw [HF.out];constructor<;>(try dsimp only)<;>omega
  case AA=>
   exact CH
theorem ap8 (xl xh yl yh:Int) (hx:¬xh<xl) (hy:¬yh<yl) (hl:yl<xl) (hh:¬xh<yh) (w:World) :
  Calls Tryz.prog 106 #[.agg #[.int .i32 xl,.int .i32 xh],.agg #[.int .i32 yl,.int .i32 yh]] w fun e w'=>e=.returned (.agg #[.int .i32 (Bi (xl,xh) (yl,yh)).1,.int .i32 (Bi (xl,xh) (yl,yh)).2])∧Below w.heap.size w w':=by
 have d1:decide (xh<xl)=false:=by simpa using hx
 have d2:decide (yh<yl)=false:=by simpa using hy
 have hf:Bi (xl,xh) (yl,yh)=(-2147483648,xh):=by simp [Bi,emp,hx,hy,hl,hh]
 have HF:=A3 hf;clear hf;go_enter Vi,Wm;go_wp2_with fail;refine (Calls.ext (Ar _ _ _)).mono ?_;rintro e _ ⟨rfl,y1,rfl⟩;go_wp2_with fail;refine (Calls.AW (Ar _ _ _)).mono ?_;rintro e _ ⟨rfl,y2,rfl⟩;go_wp2_with fail;refine (Calls.AW (Ar _ _ _)).mono ?_;rintro e _ ⟨rfl,y3,rfl⟩;have hz1:w.heap.size<y3.w.heap.size:=F7 JP y3.h.size;have hz2:w.heap.size+1<y3.w.heap.size:=F7 JP y3.h.size;have hz3:w.heap.size+1+1<y3.w.heap.size:=F7 JP y3.h.size
 go_wp2
 all_goals
  refine Af (v:=.agg #[.int .i32 (Bi (xl,xh) (yl,yh)).1,.int .i32 (Bi (xl,xh) (yl,yh)).2]) ?hr rfl ⟨rfl,?AA⟩;case hr=>
   simp [results,VO,go_sem];rw [HF.out];constructor<;>(try dsimp only)<;>omega
  case AA=>
   exact CH
theorem abM (xl xh yl yh:Int) (hx:¬xh<xl) (hy:¬yh<yl) (hl:¬yl<xl) (hh:xh<yh) (w:World) :
  Calls Tryz.prog 106 #[.agg #[.int .i32 xl,.int .i32 xh],.agg #[.int .i32 yl,.int .i32 yh]] w fun e w'=>e=.returned (.agg #[.int .i32 (Bi (xl,xh) (yl,yh)).1,.int .i32 (Bi (xl,xh) (yl,yh)).2])∧Below w.heap.size w w':=by
 have d1:decide (xh<xl)=false:=by simpa using hx
 have d2:decide (yh<yl)=false:=by simpa using hy
 have hf:Bi (xl,xh) (yl,yh)=(xl,2147483647):=by simp [Bi,emp,hx,hy,hl,hh]
 have HF:=A3 hf;clear hf;go_enter Vi,Wm;go_wp2_with fail;refine (Calls.ext (Ar _ _ _)).mono ?_;rintro e _ ⟨rfl,y1,rfl⟩;go_wp2_with fail;refine (Calls.AW (Ar _ _ _)).mono ?_;rintro e _ ⟨rfl,y2,rfl⟩;go_wp2_with fail;refine (Calls.AW (Ar _ _ _)).mono ?_;rintro e _ ⟨rfl,y3,rfl⟩;have hz1:w.heap.size<y3.w.heap.size:=F7 JP y3.h.size;have hz2:w.heap.size+1<y3.w.heap.size:=F7 JP y3.h.size;have hz3:w.heap.size+1+1<y3.w.heap.size:=F7 JP y3.h.size
 go_wp2
 all_goals
  refine Af (v:=.agg #[.int .i32 (Bi (xl,xh) (yl,yh)).1,.int .i32 (Bi (xl,xh) (yl,yh)).2]) ?hr rfl ⟨rfl,?AA⟩;case hr=>
   simp [results,VO,go_sem];rw [HF.out];constructor<;>(try dsimp only)<;>omega
  case AA=>
   exact CH
theorem aac (xl xh yl yh:Int) (hx:¬xh<xl) (hy:¬yh<yl) (hl:¬yl<xl) (hh:¬xh<yh) (w:World) :
  Calls Tryz.prog 106 #[.agg #[.int .i32 xl,.int .i32 xh],.agg #[.int .i32 yl,.int .i32 yh]] w fun e w'=>e=.returned (.agg #[.int .i32 (Bi (xl,xh) (yl,yh)).1,.int .i32 (Bi (xl,xh) (yl,yh)).2])∧Below w.heap.size w w':=by
 have d1:decide (xh<xl)=false:=by simpa using hx
 have d2:decide (yh<yl)=false:=by simpa using hy
 have hf:Bi (xl,xh) (yl,yh)=(xl,xh):=by simp [Bi,emp,hx,hy,hl,hh]
 have HF:=A3 hf;clear hf;go_enter Vi,Wm;go_wp2_with fail;refine (Calls.ext (Ar _ _ _)).mono ?_;rintro e _ ⟨rfl,y1,rfl⟩;go_wp2_with fail;refine (Calls.AW (Ar _ _ _)).mono ?_;rintro e _ ⟨rfl,y2,rfl⟩;go_wp2_with fail;refine (Calls.AW (Ar _ _ _)).mono ?_;rintro e _ ⟨rfl,y3,rfl⟩;have hz1:w.heap.size<y3.w.heap.size:=F7 JP y3.h.size;have hz2:w.heap.size+1<y3.w.heap.size:=F7 JP y3.h.size;have hz3:w.heap.size+1+1<y3.w.heap.size:=F7 JP y3.h.size
 go_wp2
 all_goals
  refine Af (v:=.agg #[.int .i32 (Bi (xl,xh) (yl,yh)).1,.int .i32 (Bi (xl,xh) (yl,yh)).2]) ?hr rfl ⟨rfl,?AA⟩;case hr=>
   simp [results,VO,go_sem];rw [HF.out];constructor<;>(try dsimp only)<;>omega
  case AA=>
   exact CH
theorem xZ (xl xh yl yh:Int) (w:World):Calls Tryz.prog 106 #[.agg #[.int .i32 xl,.int .i32 xh],.agg #[.int .i32 yl,.int .i32 yh]] w fun e w'=>e=.returned (.agg #[.int .i32 (Bi (xl,xh) (yl,yh)).1,.int .i32 (Bi (xl,xh) (yl,yh)).2])∧Below w.heap.size w w':=by
 by_cases hx:xh<xl
 ·by_cases hy:yh<yl
  ·exact xe xl xh yl yh hx hy w
  ·exact ahI xl xh yl yh hx hy w
 ·by_cases hy:yh<yl
  ·exact aro xl xh yl yh hx hy w
  ·by_cases hl:yl<xl
   ·by_cases hh:xh<yh
    ·exact zY xl xh yl yh hx hy hl hh w
    ·exact ap8 xl xh yl yh hx hy hl hh w
   ·by_cases hh:xh<yh
    ·exact abM xl xh yl yh hx hy hl hh w
    ·exact aac xl xh yl yh hx hy hl hh w
theorem ati (xl xh yl yh:Int) (hx:xh<xl) (hl:xl<yl) (hh:yh<xh) (w:World) :
  Calls Tryz.prog 134 #[.agg #[.int .i32 xl,.int .i32 xh],.agg #[.int .i32 yl,.int .i32 yh]] w fun e w'=>e=.returned (.agg #[.int .i32 (Ao (xl,xh) (yl,yh)).1,.int .i32 (Ao (xl,xh) (yl,yh)).2])∧Below w.heap.size w w':=by
 have hf:Ao (xl,xh) (yl,yh)=(1,0):=by simp [Ao,emp,hx]
 have HF:=A3 hf;clear hf;go_enter NZ,N1;go_wp2_with (first|(go_at_call 127;((first|(with_reducible refine (Calls.AW (Ar _ _ _)).mono ?_)|(refine (Calls.ext (Ar _ _ _)).mono ?_));rintro e _ ⟨rfl,y,rfl⟩))|(go_at_call 128;((first|(with_reducible refine (Calls.AW (C9 _)).mono ?_)|(refine (Calls.ext (C9 _)).mono ?_));rintro e _ ⟨rfl,y,rfl⟩)));all_goals
  refine Af (v:=.agg #[.int .i32 (Ao (xl,xh) (yl,yh)).1,.int .i32 (Ao (xl,xh) (yl,yh)).2]) ?hr rfl ⟨rfl,?AA⟩;case hr=>
   simp [results,Mk,go_sem];rw [HF.out];constructor<;>(try dsimp only)<;>omega
  case AA=>
   exact CH
theorem at5 (xl xh yl yh:Int) (hx:¬xh<xl) (hy:yh<yl) (hl:xl<yl) (hh:yh<xh) (w:World) :
  Calls Tryz.prog 134 #[.agg #[.int .i32 xl,.int .i32 xh],.agg #[.int .i32 yl,.int .i32 yh]] w fun e w'=>e=.returned (.agg #[.int .i32 (Ao (xl,xh) (yl,yh)).1,.int .i32 (Ao (xl,xh) (yl,yh)).2])∧Below w.heap.size w w':=by
 have d1:decide (xh<xl)=false:=by simpa using hx
 have hf:Ao (xl,xh) (yl,yh)=(1,0):=by simp [Ao,emp,hy]
 have HF:=A3 hf;clear hf;go_enter NZ,N1;go_wp2_with (first|(go_at_call 127;((first|(with_reducible refine (Calls.AW (Ar _ _ _)).mono ?_)|(refine (Calls.ext (Ar _ _ _)).mono ?_));rintro e _ ⟨rfl,y,rfl⟩))|(go_at_call 128;((first|(with_reducible refine (Calls.AW (C9 _)).mono ?_)|(refine (Calls.ext (C9 _)).mono ?_));rintro e _ ⟨rfl,y,rfl⟩)));all_goals
  refine Af (v:=.agg #[.int .i32 (Ao (xl,xh) (yl,yh)).1,.int .i32 (Ao (xl,xh) (yl,yh)).2]) ?hr rfl ⟨rfl,?AA⟩;case hr=>
   simp [results,Mk,go_sem];rw [HF.out];constructor<;>(try dsimp only)<;>omega
  case AA=>
   exact CH
theorem ar4 (xl xh yl yh:Int) (hx:¬xh<xl) (hy:¬yh<yl) (hz:¬yh<yl) (hl:xl<yl) (hh:yh<xh) (w:World) :
  Calls Tryz.prog 134 #[.agg #[.int .i32 xl,.int .i32 xh],.agg #[.int .i32 yl,.int .i32 yh]] w fun e w'=>e=.returned (.agg #[.int .i32 (Ao (xl,xh) (yl,yh)).1,.int .i32 (Ao (xl,xh) (yl,yh)).2])∧Below w.heap.size w w':=by
 have d1:decide (xh<xl)=false:=by simpa using hx
 have d2:decide (yh<yl)=false:=by simpa using hy
 have hf:Ao (xl,xh) (yl,yh)=(yl,yh):=by simp [Ao,emp];rw [A6 A0];congr 1<;>omega
 have HF:=A3 hf;clear hf;go_enter NZ,N1;go_wp2_with (first|(go_at_call 127;((first|(with_reducible refine (Calls.AW (Ar _ _ _)).mono ?_)|(refine (Calls.ext (Ar _ _ _)).mono ?_));rintro e _ ⟨rfl,y,rfl⟩))|(go_at_call 128;((first|(with_reducible refine (Calls.AW (C9 _)).mono ?_)|(refine (Calls.ext (C9 _)).mono ?_));rintro e _ ⟨rfl,y,rfl⟩)));all_goals
  refine Af (v:=.agg #[.int .i32 (Ao (xl,xh) (yl,yh)).1,.int .i32 (Ao (xl,xh) (yl,yh)).2]) ?hr rfl ⟨rfl,?AA⟩;case hr=>
   simp [results,Mk,go_sem];rw [HF.out];constructor<;>(try dsimp only)<;>omega
  case AA=>
   exact CH
theorem ate (xl xh yl yh:Int) (hx:xh<xl) (hl:xl<yl) (hh:xh≤yh) (w:World) :
  Calls Tryz.prog 134 #[.agg #[.int .i32 xl,.int .i32 xh],.agg #[.int .i32 yl,.int .i32 yh]] w fun e w'=>e=.returned (.agg #[.int .i32 (Ao (xl,xh) (yl,yh)).1,.int .i32 (Ao (xl,xh) (yl,yh)).2])∧Below w.heap.size w w':=by
 have hf:Ao (xl,xh) (yl,yh)=(1,0):=by simp [Ao,emp,hx]
 have HF:=A3 hf;clear hf;go_enter NZ,N1;go_wp2_with (first|(go_at_call 127;((first|(with_reducible refine (Calls.AW (Ar _ _ _)).mono ?_)|(refine (Calls.ext (Ar _ _ _)).mono ?_));rintro e _ ⟨rfl,y,rfl⟩))|(go_at_call 128;((first|(with_reducible refine (Calls.AW (C9 _)).mono ?_)|(refine (Calls.ext (C9 _)).mono ?_));rintro e _ ⟨rfl,y,rfl⟩)));all_goals
  refine Af (v:=.agg #[.int .i32 (Ao (xl,xh) (yl,yh)).1,.int .i32 (Ao (xl,xh) (yl,yh)).2]) ?hr rfl ⟨rfl,?AA⟩;case hr=>
   simp [results,Mk,go_sem];rw [HF.out];constructor<;>(try dsimp only)<;>omega
  case AA=>
   exact CH
theorem at1 (xl xh yl yh:Int) (hx:¬xh<xl) (hy:yh<yl) (hl:xl<yl) (hh:xh≤yh) (w:World) :
  Calls Tryz.prog 134 #[.agg #[.int .i32 xl,.int .i32 xh],.agg #[.int .i32 yl,.int .i32 yh]] w fun e w'=>e=.returned (.agg #[.int .i32 (Ao (xl,xh) (yl,yh)).1,.int .i32 (Ao (xl,xh) (yl,yh)).2])∧Below w.heap.size w w':=by
 have d1:decide (xh<xl)=false:=by simpa using hx
 have hf:Ao (xl,xh) (yl,yh)=(1,0):=by simp [Ao,emp,hy]
 have HF:=A3 hf;clear hf;go_enter NZ,N1;go_wp2_with (first|(go_at_call 127;((first|(with_reducible refine (Calls.AW (Ar _ _ _)).mono ?_)|(refine (Calls.ext (Ar _ _ _)).mono ?_));rintro e _ ⟨rfl,y,rfl⟩))|(go_at_call 128;((first|(with_reducible refine (Calls.AW (C9 _)).mono ?_)|(refine (Calls.ext (C9 _)).mono ?_));rintro e _ ⟨rfl,y,rfl⟩)));all_goals
  refine Af (v:=.agg #[.int .i32 (Ao (xl,xh) (yl,yh)).1,.int .i32 (Ao (xl,xh) (yl,yh)).2]) ?hr rfl ⟨rfl,?AA⟩;case hr=>
   simp [results,Mk,go_sem];rw [HF.out];constructor<;>(try dsimp only)<;>omega
  case AA=>
   exact CH
theorem alk (xl xh yl yh:Int) (hx:¬xh<xl) (hy:¬yh<yl) (hz:xh<yl) (hl:xl<yl) (hh:xh≤yh) (w:World) :
  Calls Tryz.prog 134 #[.agg #[.int .i32 xl,.int .i32 xh],.agg #[.int .i32 yl,.int .i32 yh]] w fun e w'=>e=.returned (.agg #[.int .i32 (Ao (xl,xh) (yl,yh)).1,.int .i32 (Ao (xl,xh) (yl,yh)).2])∧Below w.heap.size w w':=by
 have d1:decide (xh<xl)=false:=by simpa using hx
 have d2:decide (yh<yl)=false:=by simpa using hy
 have hf:Ao (xl,xh) (yl,yh)=(1,0):=by simp [Ao,emp];omega
 have HF:=A3 hf;clear hf;go_enter NZ,N1;go_wp2_with (first|(go_at_call 127;((first|(with_reducible refine (Calls.AW (Ar _ _ _)).mono ?_)|(refine (Calls.ext (Ar _ _ _)).mono ?_));rintro e _ ⟨rfl,y,rfl⟩))|(go_at_call 128;((first|(with_reducible refine (Calls.AW (C9 _)).mono ?_)|(refine (Calls.ext (C9 _)).mono ?_));rintro e _ ⟨rfl,y,rfl⟩)));all_goals
  refine Af (v:=.agg #[.int .i32 (Ao (xl,xh) (yl,yh)).1,.int .i32 (Ao (xl,xh) (yl,yh)).2]) ?hr rfl ⟨rfl,?AA⟩;case hr=>
   simp [results,Mk,go_sem];rw [HF.out];constructor<;>(try dsimp only)<;>omega
  case AA=>
   exact CH
theorem zg (xl xh yl yh:Int) (hx:¬xh<xl) (hy:¬yh<yl) (hz:¬xh<yl) (hl:xl<yl) (hh:xh≤yh) (w:World) :
  Calls Tryz.prog 134 #[.agg #[.int .i32 xl,.int .i32 xh],.agg #[.int .i32 yl,.int .i32 yh]] w fun e w'=>e=.returned (.agg #[.int .i32 (Ao (xl,xh) (yl,yh)).1,.int .i32 (Ao (xl,xh) (yl,yh)).2])∧Below w.heap.size w w':=by
 have d1:decide (xh<xl)=false:=by simpa using hx
 have d2:decide (yh<yl)=false:=by simpa using hy
 have hf:Ao (xl,xh) (yl,yh)=(yl,xh):=by simp [Ao,emp];rw [A6 A0];congr 1<;>omega
 have HF:=A3 hf;clear hf;go_enter NZ,N1;go_wp2_with (first|(go_at_call 127;((first|(with_reducible refine (Calls.AW (Ar _ _ _)).mono ?_)|(refine (Calls.ext (Ar _ _ _)).mono ?_));rintro e _ ⟨rfl,y,rfl⟩))|(go_at_call 128;((first|(with_reducible refine (Calls.AW (C9 _)).mono ?_)|(refine (Calls.ext (C9 _)).mono ?_));rintro e _ ⟨rfl,y,rfl⟩)));all_goals
  refine Af (v:=.agg #[.int .i32 (Ao (xl,xh) (yl,yh)).1,.int .i32 (Ao (xl,xh) (yl,yh)).2]) ?hr rfl ⟨rfl,?AA⟩;case hr=>
   simp [results,Mk,go_sem];rw [HF.out];constructor<;>(try dsimp only)<;>omega
  case AA=>
   exact CH
theorem aes (xl xh yl yh:Int) (hx:xh<xl) (hl:yl≤xl) (hh:yh<xh) (w:World) :
  Calls Tryz.prog 134 #[.agg #[.int .i32 xl,.int .i32 xh],.agg #[.int .i32 yl,.int .i32 yh]] w fun e w'=>e=.returned (.agg #[.int .i32 (Ao (xl,xh) (yl,yh)).1,.int .i32 (Ao (xl,xh) (yl,yh)).2])∧Below w.heap.size w w':=by
 have hf:Ao (xl,xh) (yl,yh)=(1,0):=by simp [Ao,emp,hx]
 have HF:=A3 hf;clear hf;go_enter NZ,N1;go_wp2_with (first|(go_at_call 127;((first|(with_reducible refine (Calls.AW (Ar _ _ _)).mono ?_)|(refine (Calls.ext (Ar _ _ _)).mono ?_));rintro e _ ⟨rfl,y,rfl⟩))|(go_at_call 128;((first|(with_reducible refine (Calls.AW (C9 _)).mono ?_)|(refine (Calls.ext (C9 _)).mono ?_));rintro e _ ⟨rfl,y,rfl⟩)));all_goals
  refine Af (v:=.agg #[.int .i32 (Ao (xl,xh) (yl,yh)).1,.int .i32 (Ao (xl,xh) (yl,yh)).2]) ?hr rfl ⟨rfl,?AA⟩;case hr=>
   simp [results,Mk,go_sem];rw [HF.out];constructor<;>(try dsimp only)<;>omega
  case AA=>
   exact CH
theorem aq7 (xl xh yl yh:Int) (hx:¬xh<xl) (hy:yh<yl) (hl:yl≤xl) (hh:yh<xh) (w:World) :
  Calls Tryz.prog 134 #[.agg #[.int .i32 xl,.int .i32 xh],.agg #[.int .i32 yl,.int .i32 yh]] w fun e w'=>e=.returned (.agg #[.int .i32 (Ao (xl,xh) (yl,yh)).1,.int .i32 (Ao (xl,xh) (yl,yh)).2])∧Below w.heap.size w w':=by
 have d1:decide (xh<xl)=false:=by simpa using hx
 have hf:Ao (xl,xh) (yl,yh)=(1,0):=by simp [Ao,emp,hy]
 have HF:=A3 hf;clear hf;go_enter NZ,N1;go_wp2_with (first|(go_at_call 127;((first|(with_reducible refine (Calls.AW (Ar _ _ _)).mono ?_)|(refine (Calls.ext (Ar _ _ _)).mono ?_));rintro e _ ⟨rfl,y,rfl⟩))|(go_at_call 128;((first|(with_reducible refine (Calls.AW (C9 _)).mono ?_)|(refine (Calls.ext (C9 _)).mono ?_));rintro e _ ⟨rfl,y,rfl⟩)));all_goals
  refine Af (v:=.agg #[.int .i32 (Ao (xl,xh) (yl,yh)).1,.int .i32 (Ao (xl,xh) (yl,yh)).2]) ?hr rfl ⟨rfl,?AA⟩;case hr=>
   simp [results,Mk,go_sem];rw [HF.out];constructor<;>(try dsimp only)<;>omega
  case AA=>
   exact CH
theorem zE (xl xh yl yh:Int) (hx:¬xh<xl) (hy:¬yh<yl) (hz:yh<xl) (hl:yl≤xl) (hh:yh<xh) (w:World) :
  Calls Tryz.prog 134 #[.agg #[.int .i32 xl,.int .i32 xh],.agg #[.int .i32 yl,.int .i32 yh]] w fun e w'=>e=.returned (.agg #[.int .i32 (Ao (xl,xh) (yl,yh)).1,.int .i32 (Ao (xl,xh) (yl,yh)).2])∧Below w.heap.size w w':=by
 have d1:decide (xh<xl)=false:=by simpa using hx
 have d2:decide (yh<yl)=false:=by simpa using hy
 have hf:Ao (xl,xh) (yl,yh)=(1,0):=by simp [Ao,emp];omega
 have HF:=A3 hf;clear hf;go_enter NZ,N1;go_wp2_with (first|(go_at_call 127;((first|(with_reducible refine (Calls.AW (Ar _ _ _)).mono ?_)|(refine (Calls.ext (Ar _ _ _)).mono ?_));rintro e _ ⟨rfl,y,rfl⟩))|(go_at_call 128;((first|(with_reducible refine (Calls.AW (C9 _)).mono ?_)|(refine (Calls.ext (C9 _)).mono ?_));rintro e _ ⟨rfl,y,rfl⟩)));all_goals
  refine Af (v:=.agg #[.int .i32 (Ao (xl,xh) (yl,yh)).1,.int .i32 (Ao (xl,xh) (yl,yh)).2]) ?hr rfl ⟨rfl,?AA⟩;case hr=>
   simp [results,Mk,go_sem];rw [HF.out];constructor<;>(try dsimp only)<;>omega
  case AA=>
   exact CH
theorem alq (xl xh yl yh:Int) (hx:¬xh<xl) (hy:¬yh<yl) (hz:¬yh<xl) (hl:yl≤xl) (hh:yh<xh) (w:World) :
  Calls Tryz.prog 134 #[.agg #[.int .i32 xl,.int .i32 xh],.agg #[.int .i32 yl,.int .i32 yh]] w fun e w'=>e=.returned (.agg #[.int .i32 (Ao (xl,xh) (yl,yh)).1,.int .i32 (Ao (xl,xh) (yl,yh)).2])∧Below w.heap.size w w':=by
 have d1:decide (xh<xl)=false:=by simpa using hx
 have d2:decide (yh<yl)=false:=by simpa using hy
 have hf:Ao (xl,xh) (yl,yh)=(xl,yh):=by simp [Ao,emp];rw [A6 A0];congr 1<;>omega
 have HF:=A3 hf;clear hf;go_enter NZ,N1;go_wp2_with (first|(go_at_call 127;((first|(with_reducible refine (Calls.AW (Ar _ _ _)).mono ?_)|(refine (Calls.ext (Ar _ _ _)).mono ?_));rintro e _ ⟨rfl,y,rfl⟩))|(go_at_call 128;((first|(with_reducible refine (Calls.AW (C9 _)).mono ?_)|(refine (Calls.ext (C9 _)).mono ?_));rintro e _ ⟨rfl,y,rfl⟩)));all_goals
  refine Af (v:=.agg #[.int .i32 (Ao (xl,xh) (yl,yh)).1,.int .i32 (Ao (xl,xh) (yl,yh)).2]) ?hr rfl ⟨rfl,?AA⟩;case hr=>
   simp [results,Mk,go_sem];rw [HF.out];constructor<;>(try dsimp only)<;>omega
  case AA=>
   exact CH
theorem aa4 (xl xh yl yh:Int) (hx:xh<xl) (hl:yl≤xl) (hh:xh≤yh) (w:World) :
  Calls Tryz.prog 134 #[.agg #[.int .i32 xl,.int .i32 xh],.agg #[.int .i32 yl,.int .i32 yh]] w fun e w'=>e=.returned (.agg #[.int .i32 (Ao (xl,xh) (yl,yh)).1,.int .i32 (Ao (xl,xh) (yl,yh)).2])∧Below w.heap.size w w':=by
 have hf:Ao (xl,xh) (yl,yh)=(1,0):=by simp [Ao,emp,hx]
 have HF:=A3 hf;clear hf;go_enter NZ,N1;go_wp2_with (first|(go_at_call 127;((first|(with_reducible refine (Calls.AW (Ar _ _ _)).mono ?_)|(refine (Calls.ext (Ar _ _ _)).mono ?_));rintro e _ ⟨rfl,y,rfl⟩))|(go_at_call 128;((first|(with_reducible refine (Calls.AW (C9 _)).mono ?_)|(refine (Calls.ext (C9 _)).mono ?_));rintro e _ ⟨rfl,y,rfl⟩)));all_goals
  refine Af (v:=.agg #[.int .i32 (Ao (xl,xh) (yl,yh)).1,.int .i32 (Ao (xl,xh) (yl,yh)).2]) ?hr rfl ⟨rfl,?AA⟩;case hr=>
   simp [results,Mk,go_sem];rw [HF.out];constructor<;>(try dsimp only)<;>omega
  case AA=>
   exact CH
theorem wS (xl xh yl yh:Int) (hx:¬xh<xl) (hy:¬yh<yl) (hz:¬xh<xl) (hl:yl≤xl) (hh:xh≤yh) (w:World) :
  Calls Tryz.prog 134 #[.agg #[.int .i32 xl,.int .i32 xh],.agg #[.int .i32 yl,.int .i32 yh]] w fun e w'=>e=.returned (.agg #[.int .i32 (Ao (xl,xh) (yl,yh)).1,.int .i32 (Ao (xl,xh) (yl,yh)).2])∧Below w.heap.size w w':=by
 have d1:decide (xh<xl)=false:=by simpa using hx
 have d2:decide (yh<yl)=false:=by simpa using hy
 have hf:Ao (xl,xh) (yl,yh)=(xl,xh):=by simp [Ao,emp];rw [A6 A0];congr 1<;>omega
 have HF:=A3 hf;clear hf;go_enter NZ,N1;go_wp2_with (first|(go_at_call 127;((first|(with_reducible refine (Calls.AW (Ar _ _ _)).mono ?_)|(refine (Calls.ext (Ar _ _ _)).mono ?_));rintro e _ ⟨rfl,y,rfl⟩))|(go_at_call 128;((first|(with_reducible refine (Calls.AW (C9 _)).mono ?_)|(refine (Calls.ext (C9 _)).mono ?_));rintro e _ ⟨rfl,y,rfl⟩)));all_goals
  refine Af (v:=.agg #[.int .i32 (Ao (xl,xh) (yl,yh)).1,.int .i32 (Ao (xl,xh) (yl,yh)).2]) ?hr rfl ⟨rfl,?AA⟩;case hr=>
   simp [results,Mk,go_sem];rw [HF.out];constructor<;>(try dsimp only)<;>omega
  case AA=>
   exact CH
theorem aA (xl xh yl yh:Int) (w:World):Calls Tryz.prog 134 #[.agg #[.int .i32 xl,.int .i32 xh],.agg #[.int .i32 yl,.int .i32 yh]] w fun e w'=>e=.returned (.agg #[.int .i32 (Ao (xl,xh) (yl,yh)).1,.int .i32 (Ao (xl,xh) (yl,yh)).2])∧Below w.heap.size w w':=by
 by_cases hl:xl<yl
 ·by_cases hh:yh<xh
  ·by_cases hx:xh<xl
   ·exact ati xl xh yl yh hx hl hh w
   ·by_cases hy:yh<yl
    ·exact at5 xl xh yl yh hx hy hl hh w
    ·by_cases hz:yh<yl
     ·exact absurd hz A0
     ·exact ar4 xl xh yl yh hx hy hz hl hh w
  ·have hh:xh≤yh:=by omega
   by_cases hx:xh<xl
   ·exact ate xl xh yl yh hx hl hh w
   ·by_cases hy:yh<yl
    ·exact at1 xl xh yl yh hx hy hl hh w
    ·by_cases hz:xh<yl
     ·exact alk xl xh yl yh hx hy hz hl hh w
     ·exact zg xl xh yl yh hx hy hz hl hh w
 ·have hl:yl≤xl:=by omega
  by_cases hh:yh<xh
  ·by_cases hx:xh<xl
   ·exact aes xl xh yl yh hx hl hh w
   ·by_cases hy:yh<yl
    ·exact aq7 xl xh yl yh hx hy hl hh w
    ·by_cases hz:yh<xl
     ·exact zE xl xh yl yh hx hy hz hl hh w
     ·exact alq xl xh yl yh hx hy hz hl hh w
  ·have hh:xh≤yh:=by omega
   by_cases hx:xh<xl
   ·exact aa4 xl xh yl yh hx hl hh w
   ·by_cases hy:yh<yl
    ·exact absurd hy A0
    ·by_cases hz:xh<xl
     ·exact absurd hz A0
     ·exact wS xl xh yl yh hx hy hz hl hh w
def nth (l:List Int) (i:Nat):Int:=l.getD i 0
def Mo (l:List Int):Int:=l.foldl min (nth l 0)
def IY (l:List Int):Int:=l.foldl max (nth l 0)
def Au (l:List Int):Int×Int:=if Mo l < -2147483648∨2147483647<IY l then (-2147483648,2147483647) else (Mo l,IY l)
theorem apJ {l:List Int} {k:Nat} (h:k<l.length):l.take (k+1)=l.take k++[nth l k]:=by
 rw [asf h];simp [nth,List.getD,h]
theorem pT (f:Int→Int→Int) (l:List Int) (a:Int) (k:Nat) (h:k<l.length):(l.take (k+1)).foldl f a=f ((l.take k).foldl f a) (nth l k):=by
 rw [apJ h,Qw];rfl
theorem vg (a b:Int):(if b<a then b else a)=min a b:=by split<;>omega
theorem uZ (a b:Int):(if a<b then b else a)=max a b:=by split<;>omega
theorem ar8 (l:List Int):∀a b:Int,a≤b→l.foldl min a≤l.foldl max b:=by
 induction l with
 | nil=>intro a b h;exact h
 | cons x l ih=>intro a b h;exact ih _ _ A0
theorem xg (l:List Int):Mo l≤IY l:=ar8 l _ _ (EJ _)
theorem int_eq {k:IntKind} {a b:Int} (h:a=b):Value.int k a=Value.int k b:=by rw [h]
theorem Td (g cap:Nat) (l:List Int) (w:World) (hl:1≤l.length) (hl':l.length≤1000) (hg:g<w.heap.size) (hc:∀i,i<l.length→w.cell? ⟨g,i,none⟩=some (.int .i64 (nth l i))) :
  Calls Tryz.prog 152 #[.slice (some ⟨g,0,none⟩) l.length cap] w fun e w'=>e=.returned (.agg #[.int .i32 (Au l).1,.int .i32 (Au l).2])∧Below w.heap.size w w':=by
 have c0:=hc 0 A0;have hlz:((l.length:Int)==0)=false:=by simpa using (by intro h;subst h;simp at hl:l≠[])
 have HC:=A3 hc;clear hc;go_enter Tryz.func152,Tryz.ntmps152;go_wp2_with fail;refine C7 A4 A4 ?_;repeat (go_big_quiet_step (fail))
 refine BD ?_;rintro _ ⟨x1,rfl⟩;go_wp2_with fail;go_loop [3,4,19] (fun a b i=>∃k:Nat,k≤l.length∧i=.int .i64 k∧a=.int .i64 ((l.take k).foldl min (nth l 0))∧b=.int .i64 ((l.take k).foldl max (nth l 0))) (fun _ _ i=>l.length - (intOf i).toNat)
 case atStart=>exact⟨0,by omega,rfl,rfl,rfl⟩
 case round=>
  obtain⟨k,hk,rfl,rfl,rfl⟩:=hrel;by_cases hlt:k<l.length
  ·have ck:=HC.out k hlt
   have⟨s1,s2⟩:=AQ (pT min l (nth l 0) k hlt) (pT max l (nth l 0) k hlt);have hlt':(k:Int)<(l.length:Int):=by omega
   go_wp2
   all_goals
    go_round
    case rel=>exact⟨k+1,by omega,by go_num,int_eq (by rw [s1.out];first|done|exact vg _ _),int_eq (by rw [s2.out];first|done|exact uZ _ _)⟩
    case measure=>exact Ai
  ·have ek:l.take k=l:=K8 A0
   rw [ek];have e1:l.foldl min (nth l 0)=Mo l:=rfl;have e2:l.foldl max (nth l 0)=IY l:=rfl;rw [e1,e2];clear ek e1 e2;by_cases hlo:Mo l < -2147483648
   ·have d1:decide (Mo l < -2147483648)=true:=by simpa using hlo
    have hf:Au l=(-2147483648,2147483647):=by unfold Au;rw [A9 (.inl hlo)]
    have HF:=A3 hf;clear hf;go_wp2_with fail;refine (Calls.AW (Fa _)).mono ?_;rintro e _ ⟨rfl,y,rfl⟩
    go_wp2
    refine Af (v:=.agg #[.int .i32 (Au l).1,.int .i32 (Au l).2]) ?hr rfl ⟨rfl,?AA⟩;case hr=>
     simp [results,Tryz.results152,go_sem];rw [HF.out];constructor<;>rfl
    case AA=>
     exact CH
   ·have d1:decide (Mo l < -2147483648)=false:=by simpa using hlo
    by_cases hhi:2147483647<IY l
    ·have d2:decide (2147483647<IY l)=true:=by simpa using hhi
     have hf:Au l=(-2147483648,2147483647):=by unfold Au;rw [A9 (.inr hhi)]
     have HF:=A3 hf;clear hf;go_wp2_with fail;refine (Calls.AW (Fa _)).mono ?_;rintro e _ ⟨rfl,y,rfl⟩
     go_wp2
     refine Af (v:=.agg #[.int .i32 (Au l).1,.int .i32 (Au l).2]) ?hr rfl ⟨rfl,?AA⟩;case hr=>
      simp [results,Tryz.results152,go_sem];rw [HF.out];constructor<;>rfl
     case AA=>
      exact CH
    ·have d2:decide (2147483647<IY l)=false:=by simpa using hhi
     have hf:Au l=(Mo l,IY l):=by unfold Au;rw [A6 A0]
     have hle:=xg l;have HF:=A3 hf;clear hf
     go_wp2
     refine Af (v:=.agg #[.int .i32 (Au l).1,.int .i32 (Au l).2]) ?hr rfl ⟨rfl,?AA⟩;case hr=>
      simp [results,Tryz.results152,go_sem];rw [HF.out];constructor<;>rfl
     case AA=>
      exact CH
theorem Wi:(Tryz.prog.info? 2).map (fun i=>(i.zero,i.size,i.bytes))=some (some (.int .i64 0),1,8):=by kernel_rfl
theorem ix0 (a b:Value) (w:World):(Instr.index 221 (.agg #[a,b]) (.int .i64 0)).run Tryz.prog w=.ok a w:=by kernel_rfl
theorem ix1 (a b:Value) (w:World):(Instr.index 221 (.agg #[a,b]) (.int .i64 1)).run Tryz.prog w=.ok b w:=by kernel_rfl
theorem Ext.Eo {W0:World} (y:Ext W0) (o:Obj):W0.heap.size≤(y.w.alloc o).heap.size:=FK y.h.size AR
theorem bI {x y:Int} (h1 : -2147483648≤x) (h2:x≤2147483647) (h3 : -2147483648≤y) (h4:y≤2147483647) : -4611686018427387904≤x*y∧x*y≤4611686018427387904:=by
 have hn:(x*y).natAbs≤2147483648*2147483648:=by
  rw [Int.natAbs_mul];exact Nat.mul_le_mul A0 A0
 omega
theorem VR {w:World} {B qx:Nat} {v:Value} {l:List Int} (hcap:qx=l.length) (h:w.ownsRow B 2 1 v qx (l.map (Value.int .i64))) (hl:1≤l.length) :
  ∃g cap,v=.slice (some ⟨g,0,none⟩) l.length cap∧g<w.heap.size∧∀i,i<l.length→w.cell? ⟨g,i,none⟩=some (.int .i64 (nth l i)):=by
 subst hcap;rcases h.2 with⟨_,h0⟩|⟨g,cap,cur,hv,_,hg,hn,_,hsz,ht⟩
 ·omega
 ·refine⟨g,cap,hv,?_,fun i hi=>?_⟩
  ·rcases KP g w.heap.size with h'|h'
   ·exact h'
   ·rw [mW h'] at hg;cases hg
  ·rw [N6] at ht
   have e:cur.toList[i]?=some (.int .i64 (nth l i)):=by
    have:=congrArg (fun x=>x[i]?) ht;simp only [XP,hi,QW] at this;rw [this];simp [nth,List.getD,hi]
   simp [World.cell?,hg];simpa using e
theorem N2 {W0:World} (y:Ext W0) {o:Obj} {w':World} {e:TypeId} {size n:Nat} {v:Value} {xs:List Value} (hown:y.w.ownsRow W0.heap.size e size v n xs) (hg:(y.w.alloc o).grownBy w' v.ownBlock):∃y':Ext W0,y'.w=w':=by
 refine⟨⟨w',(y.h.alloc y.h.size o).grown hg ?_ ?_⟩,rfl⟩
 ·have:=y.h.size;simp<;>omega
 ·intro k hk
  rcases hown.2 with⟨rfl,_⟩|⟨g,cap,cur,rfl,hb,_⟩
  ·cases hk
  ·cases hk;exact hb
theorem aj (xl xh yl yh:Int) (w:World) (hx1 : -2147483648≤xl) (hx2:xl≤2147483647) (hx3 : -2147483648≤xh) (hx4:xh≤2147483647) (hy1 : -2147483648≤yl) (hy2:yl≤2147483647) (hy3 : -2147483648≤yh) (hy4:yh≤2147483647) :
  Calls Tryz.prog 144 #[.int .u8 6,.agg #[.int .i32 xl,.int .i32 xh],.agg #[.int .i32 yl,.int .i32 yh]] w fun e w'=>e=.returned (.agg #[.int .i32 (Au [xl+yl,xl+yh,xh+yl,xh+yh]).1,.int .i32 (Au [xl+yl,xl+yh,xh+yl,xh+yh]).2])∧Below w.heap.size w w':=by
 obtain⟨i0,hi,hz0,hz1,hz2⟩:=Dp Wi;have XH:=ix0;have XS:=ix1;go_enter Tryz.func144,Tryz.ntmps144;go_wp2_with fail;obtain⟨y0,hy0⟩:∃y0:Ext (((w.alloc (Obj.cells #[Value.int IntKind.i32 xl,Value.int IntKind.i32 xh] 172)).alloc (Obj.cells #[Value.int IntKind.i32 yl,Value.int IntKind.i32 yh] 172)).alloc (Obj.cells #[Value.int IntKind.i32 0,Value.int IntKind.i32 0] 172)),(((w.alloc (Obj.cells #[Value.int IntKind.i32 xl,Value.int IntKind.i32 xh] 172)).alloc (Obj.cells #[Value.int IntKind.i32 yl,Value.int IntKind.i32 yh] 172)).alloc (Obj.cells #[Value.int IntKind.i32 0,Value.int IntKind.i32 0] 172))=y0.w:=⟨⟨_,AV _ _⟩,rfl⟩;have G6:y0.w.ownsRow (World.heap (((w.alloc (Obj.cells #[Value.int IntKind.i32 xl,Value.int IntKind.i32 xh] 172)).alloc (Obj.cells #[Value.int IntKind.i32 yl,Value.int IntKind.i32 yh] 172)).alloc (Obj.cells #[Value.int IntKind.i32 0,Value.int IntKind.i32 0] 172))).size 2 1 (.slice none 0 0) 0 []:=⟨rfl,.inl ⟨rfl,rfl⟩⟩;rw [hy0];clear hy0;refine GU 3 ?_;rw [BS];go_wp2_with fail;refine GU 3 ?_;rw [BS];go_wp2_with (at_builtin;refine FH _ rfl (.tmp 41) (.tmp 45) 220 rfl (World.heap (((w.alloc (Obj.cells #[Value.int IntKind.i32 xl,Value.int IntKind.i32 xh] 172)).alloc (Obj.cells #[Value.int IntKind.i32 yl,Value.int IntKind.i32 yh] 172)).alloc (Obj.cells #[Value.int IntKind.i32 0,Value.int IntKind.i32 0] 172))).size 2 i0 (.int .i64 0) 1 8 FB hi hz0 hz1 hz2 rfl AP _ _ _ rfl (G6.alloc _) ⟨y0.w.heap.size,0,none⟩ 1 1 [.int .i64 (xl+yl)] rfl rfl (Du _ _ _) Bd CJ A0 (Ext.Eo y0 _) ?_;intro v1 w1 hown1 hgrow _);obtain⟨y1,rfl⟩:=N2 y0 G6 hgrow;clear hgrow;go_wp2_with fail;rw [BS];go_wp2_with (at_builtin;refine FH _ rfl (.tmp 41) (.tmp 45) 220 rfl (World.heap (((w.alloc (Obj.cells #[Value.int IntKind.i32 xl,Value.int IntKind.i32 xh] 172)).alloc (Obj.cells #[Value.int IntKind.i32 yl,Value.int IntKind.i32 yh] 172)).alloc (Obj.cells #[Value.int IntKind.i32 0,Value.int IntKind.i32 0] 172))).size 2 i0 (.int .i64 0) 1 8 FB hi hz0 hz1 hz2 rfl AP _ _ _ rfl (hown1.alloc _) ⟨y1.w.heap.size,0,none⟩ 1 1 [.int .i64 (xl+yh)] rfl rfl (Du _ _ _) Bd CJ A0 (Ext.Eo y1 _) ?_;intro v2 w1 hown2 hgrow _);obtain⟨y2,rfl⟩:=N2 y1 hown1 hgrow;clear hgrow;go_wp2_with fail;rw [BS];go_wp2_with fail;rw [BS];go_wp2_with fail;refine GU 3 ?_;rw [BS];go_wp2_with (at_builtin;refine FH _ rfl (.tmp 41) (.tmp 45) 220 rfl (World.heap (((w.alloc (Obj.cells #[Value.int IntKind.i32 xl,Value.int IntKind.i32 xh] 172)).alloc (Obj.cells #[Value.int IntKind.i32 yl,Value.int IntKind.i32 yh] 172)).alloc (Obj.cells #[Value.int IntKind.i32 0,Value.int IntKind.i32 0] 172))).size 2 i0 (.int .i64 0) 1 8 FB hi hz0 hz1 hz2 rfl AP _ _ _ rfl (hown2.alloc _) ⟨y2.w.heap.size,0,none⟩ 1 1 [.int .i64 (xh+yl)] rfl rfl (Du _ _ _) Bd CJ A0 (Ext.Eo y2 _) ?_;intro v3 w1 Hh hgrow _);obtain⟨y3,rfl⟩:=N2 y2 hown2 hgrow;clear hgrow;go_wp2_with fail;rw [BS];go_wp2_with (at_builtin;refine FH _ rfl (.tmp 41) (.tmp 45) 220 rfl (World.heap (((w.alloc (Obj.cells #[Value.int IntKind.i32 xl,Value.int IntKind.i32 xh] 172)).alloc (Obj.cells #[Value.int IntKind.i32 yl,Value.int IntKind.i32 yh] 172)).alloc (Obj.cells #[Value.int IntKind.i32 0,Value.int IntKind.i32 0] 172))).size 2 i0 (.int .i64 0) 1 8 FB hi hz0 hz1 hz2 rfl AP _ _ _ rfl (Hh.alloc _) ⟨y3.w.heap.size,0,none⟩ 1 1 [.int .i64 (xh+yh)] rfl rfl (Du _ _ _) Bd CJ A0 (Ext.Eo y3 _) ?_;intro v4 w1 MW hgrow _);obtain⟨y4,rfl⟩:=N2 y3 Hh hgrow;clear hgrow;go_wp2_with fail;rw [BS];go_wp2_with fail;rw [BS];go_wp2_with fail;obtain⟨g,cap,hv,hg,hc⟩:=VR (l:=[xl+yl,xl+yh,xh+yl,xh+yh]) rfl (by simpa using MW) AR;rw [hv];clear hv G6 hown1 hown2 Hh MW;refine (Calls.AW (Td g cap [xl+yl,xl+yh,xh+yl,xh+yh] y4.w AR AR hg hc)).mono ?_;rintro e _ ⟨rfl,y5,rfl⟩;clear hc
 go_wp2
 all_goals
  refine Af (v:=.agg #[.int .i32 (Au [xl+yl,xl+yh,xh+yl,xh+yh]).1,.int .i32 (Au [xl+yl,xl+yh,xh+yl,xh+yh]).2]) ?hr rfl ⟨rfl,?AA⟩;case hr=>
   simp [results,Tryz.results144,go_sem]
  case AA=>
   exact CH
theorem aC (xl xh yl yh:Int) (w:World) (hx1 : -2147483648≤xl) (hx2:xl≤2147483647) (hx3 : -2147483648≤xh) (hx4:xh≤2147483647) (hy1 : -2147483648≤yl) (hy2:yl≤2147483647) (hy3 : -2147483648≤yh) (hy4:yh≤2147483647) :
  Calls Tryz.prog 144 #[.int .u8 7,.agg #[.int .i32 xl,.int .i32 xh],.agg #[.int .i32 yl,.int .i32 yh]] w fun e w'=>e=.returned (.agg #[.int .i32 (Au [xl - yl,xl - yh,xh - yl,xh - yh]).1,.int .i32 (Au [xl - yl,xl - yh,xh - yl,xh - yh]).2])∧Below w.heap.size w w':=by
 obtain⟨i0,hi,hz0,hz1,hz2⟩:=Dp Wi;have XH:=ix0;have XS:=ix1;go_enter Tryz.func144,Tryz.ntmps144;go_wp2_with fail;obtain⟨y0,hy0⟩:∃y0:Ext (((w.alloc (Obj.cells #[Value.int IntKind.i32 xl,Value.int IntKind.i32 xh] 172)).alloc (Obj.cells #[Value.int IntKind.i32 yl,Value.int IntKind.i32 yh] 172)).alloc (Obj.cells #[Value.int IntKind.i32 0,Value.int IntKind.i32 0] 172)),(((w.alloc (Obj.cells #[Value.int IntKind.i32 xl,Value.int IntKind.i32 xh] 172)).alloc (Obj.cells #[Value.int IntKind.i32 yl,Value.int IntKind.i32 yh] 172)).alloc (Obj.cells #[Value.int IntKind.i32 0,Value.int IntKind.i32 0] 172))=y0.w:=⟨⟨_,AV _ _⟩,rfl⟩;have G6:y0.w.ownsRow (World.heap (((w.alloc (Obj.cells #[Value.int IntKind.i32 xl,Value.int IntKind.i32 xh] 172)).alloc (Obj.cells #[Value.int IntKind.i32 yl,Value.int IntKind.i32 yh] 172)).alloc (Obj.cells #[Value.int IntKind.i32 0,Value.int IntKind.i32 0] 172))).size 2 1 (.slice none 0 0) 0 []:=⟨rfl,.inl ⟨rfl,rfl⟩⟩;rw [hy0];clear hy0;refine GU 3 ?_;rw [BS];go_wp2_with fail;refine GU 3 ?_;rw [BS];go_wp2_with (at_builtin;refine FH _ rfl (.tmp 49) (.tmp 53) 220 rfl (World.heap (((w.alloc (Obj.cells #[Value.int IntKind.i32 xl,Value.int IntKind.i32 xh] 172)).alloc (Obj.cells #[Value.int IntKind.i32 yl,Value.int IntKind.i32 yh] 172)).alloc (Obj.cells #[Value.int IntKind.i32 0,Value.int IntKind.i32 0] 172))).size 2 i0 (.int .i64 0) 1 8 FB hi hz0 hz1 hz2 rfl AP _ _ _ rfl (G6.alloc _) ⟨y0.w.heap.size,0,none⟩ 1 1 [.int .i64 (xl - yl)] rfl rfl (Du _ _ _) Bd CJ A0 (Ext.Eo y0 _) ?_;intro v1 w1 hown1 hgrow _);obtain⟨y1,rfl⟩:=N2 y0 G6 hgrow;clear hgrow;go_wp2_with fail;rw [BS];go_wp2_with (at_builtin;refine FH _ rfl (.tmp 49) (.tmp 53) 220 rfl (World.heap (((w.alloc (Obj.cells #[Value.int IntKind.i32 xl,Value.int IntKind.i32 xh] 172)).alloc (Obj.cells #[Value.int IntKind.i32 yl,Value.int IntKind.i32 yh] 172)).alloc (Obj.cells #[Value.int IntKind.i32 0,Value.int IntKind.i32 0] 172))).size 2 i0 (.int .i64 0) 1 8 FB hi hz0 hz1 hz2 rfl AP _ _ _ rfl (hown1.alloc _) ⟨y1.w.heap.size,0,none⟩ 1 1 [.int .i64 (xl - yh)] rfl rfl (Du _ _ _) Bd CJ A0 (Ext.Eo y1 _) ?_;intro v2 w1 hown2 hgrow _);obtain⟨y2,rfl⟩:=N2 y1 hown1 hgrow;clear hgrow;go_wp2_with fail;rw [BS];go_wp2_with fail;rw [BS];go_wp2_with fail;refine GU 3 ?_;rw [BS];go_wp2_with (at_builtin;refine FH _ rfl (.tmp 49) (.tmp 53) 220 rfl (World.heap (((w.alloc (Obj.cells #[Value.int IntKind.i32 xl,Value.int IntKind.i32 xh] 172)).alloc (Obj.cells #[Value.int IntKind.i32 yl,Value.int IntKind.i32 yh] 172)).alloc (Obj.cells #[Value.int IntKind.i32 0,Value.int IntKind.i32 0] 172))).size 2 i0 (.int .i64 0) 1 8 FB hi hz0 hz1 hz2 rfl AP _ _ _ rfl (hown2.alloc _) ⟨y2.w.heap.size,0,none⟩ 1 1 [.int .i64 (xh - yl)] rfl rfl (Du _ _ _) Bd CJ A0 (Ext.Eo y2 _) ?_;intro v3 w1 Hh hgrow _);obtain⟨y3,rfl⟩:=N2 y2 hown2 hgrow;clear hgrow;go_wp2_with fail;rw [BS];go_wp2_with (at_builtin;refine FH _ rfl (.tmp 49) (.tmp 53) 220 rfl (World.heap (((w.alloc (Obj.cells #[Value.int IntKind.i32 xl,Value.int IntKind.i32 xh] 172)).alloc (Obj.cells #[Value.int IntKind.i32 yl,Value.int IntKind.i32 yh] 172)).alloc (Obj.cells #[Value.int IntKind.i32 0,Value.int IntKind.i32 0] 172))).size 2 i0 (.int .i64 0) 1 8 FB hi hz0 hz1 hz2 rfl AP _ _ _ rfl (Hh.alloc _) ⟨y3.w.heap.size,0,none⟩ 1 1 [.int .i64 (xh - yh)] rfl rfl (Du _ _ _) Bd CJ A0 (Ext.Eo y3 _) ?_;intro v4 w1 MW hgrow _);obtain⟨y4,rfl⟩:=N2 y3 Hh hgrow;clear hgrow;go_wp2_with fail;rw [BS];go_wp2_with fail;rw [BS];go_wp2_with fail;obtain⟨g,cap,hv,hg,hc⟩:=VR (l:=[xl - yl,xl - yh,xh - yl,xh - yh]) rfl (by simpa using MW) AR;rw [hv];clear hv G6 hown1 hown2 Hh MW;refine (Calls.AW (Td g cap [xl - yl,xl - yh,xh - yl,xh - yh] y4.w AR AR hg hc)).mono ?_;rintro e _ ⟨rfl,y5,rfl⟩;clear hc
 go_wp2
 all_goals
  refine Af (v:=.agg #[.int .i32 (Au [xl - yl,xl - yh,xh - yl,xh - yh]).1,.int .i32 (Au [xl - yl,xl - yh,xh - yl,xh - yh]).2]) ?hr rfl ⟨rfl,?AA⟩;case hr=>
   simp [results,Tryz.results144,go_sem]
  case AA=>
   exact CH
theorem bH (xl xh yl yh:Int) (w:World) (hx1 : -2147483648≤xl) (hx2:xl≤2147483647) (hx3 : -2147483648≤xh) (hx4:xh≤2147483647) (hy1 : -2147483648≤yl) (hy2:yl≤2147483647) (hy3 : -2147483648≤yh) (hy4:yh≤2147483647) :
  Calls Tryz.prog 144 #[.int .u8 8,.agg #[.int .i32 xl,.int .i32 xh],.agg #[.int .i32 yl,.int .i32 yh]] w fun e w'=>e=.returned (.agg #[.int .i32 (Au [xl*yl,xl*yh,xh*yl,xh*yh]).1,.int .i32 (Au [xl*yl,xl*yh,xh*yl,xh*yh]).2])∧Below w.heap.size w w':=by
 obtain⟨i0,hi,hz0,hz1,hz2⟩:=Dp Wi;have XH:=ix0;have XS:=ix1;obtain⟨p0,q0⟩:=bI (x:=xl) (y:=yl) A0 A0 A0 A0;obtain⟨p1,q1⟩:=bI (x:=xl) (y:=yh) A0 A0 A0 A0;obtain⟨p2,q2⟩:=bI (x:=xh) (y:=yl) A0 A0 A0 A0;obtain⟨p3,q3⟩:=bI (x:=xh) (y:=yh) A0 A0 A0 A0;go_enter Tryz.func144,Tryz.ntmps144;go_wp2_with fail;obtain⟨y0,hy0⟩:∃y0:Ext (((w.alloc (Obj.cells #[Value.int IntKind.i32 xl,Value.int IntKind.i32 xh] 172)).alloc (Obj.cells #[Value.int IntKind.i32 yl,Value.int IntKind.i32 yh] 172)).alloc (Obj.cells #[Value.int IntKind.i32 0,Value.int IntKind.i32 0] 172)),(((w.alloc (Obj.cells #[Value.int IntKind.i32 xl,Value.int IntKind.i32 xh] 172)).alloc (Obj.cells #[Value.int IntKind.i32 yl,Value.int IntKind.i32 yh] 172)).alloc (Obj.cells #[Value.int IntKind.i32 0,Value.int IntKind.i32 0] 172))=y0.w:=⟨⟨_,AV _ _⟩,rfl⟩;have G6:y0.w.ownsRow (World.heap (((w.alloc (Obj.cells #[Value.int IntKind.i32 xl,Value.int IntKind.i32 xh] 172)).alloc (Obj.cells #[Value.int IntKind.i32 yl,Value.int IntKind.i32 yh] 172)).alloc (Obj.cells #[Value.int IntKind.i32 0,Value.int IntKind.i32 0] 172))).size 2 1 (.slice none 0 0) 0 []:=⟨rfl,.inl ⟨rfl,rfl⟩⟩;rw [hy0];clear hy0;refine GU 3 ?_;rw [BS];go_wp2_with fail;refine GU 3 ?_;rw [BS];go_wp2_with (at_builtin;refine FH _ rfl (.tmp 33) (.tmp 37) 220 rfl (World.heap (((w.alloc (Obj.cells #[Value.int IntKind.i32 xl,Value.int IntKind.i32 xh] 172)).alloc (Obj.cells #[Value.int IntKind.i32 yl,Value.int IntKind.i32 yh] 172)).alloc (Obj.cells #[Value.int IntKind.i32 0,Value.int IntKind.i32 0] 172))).size 2 i0 (.int .i64 0) 1 8 FB hi hz0 hz1 hz2 rfl AP _ _ _ rfl (G6.alloc _) ⟨y0.w.heap.size,0,none⟩ 1 1 [.int .i64 (xl*yl)] rfl rfl (Du _ _ _) Bd CJ A0 (Ext.Eo y0 _) ?_;intro v1 w1 hown1 hgrow _);obtain⟨y1,rfl⟩:=N2 y0 G6 hgrow;clear hgrow;go_wp2_with fail;rw [BS];go_wp2_with (at_builtin;refine FH _ rfl (.tmp 33) (.tmp 37) 220 rfl (World.heap (((w.alloc (Obj.cells #[Value.int IntKind.i32 xl,Value.int IntKind.i32 xh] 172)).alloc (Obj.cells #[Value.int IntKind.i32 yl,Value.int IntKind.i32 yh] 172)).alloc (Obj.cells #[Value.int IntKind.i32 0,Value.int IntKind.i32 0] 172))).size 2 i0 (.int .i64 0) 1 8 FB hi hz0 hz1 hz2 rfl AP _ _ _ rfl (hown1.alloc _) ⟨y1.w.heap.size,0,none⟩ 1 1 [.int .i64 (xl*yh)] rfl rfl (Du _ _ _) Bd CJ A0 (Ext.Eo y1 _) ?_;intro v2 w1 hown2 hgrow _);obtain⟨y2,rfl⟩:=N2 y1 hown1 hgrow;clear hgrow;go_wp2_with fail;rw [BS];go_wp2_with fail;rw [BS];go_wp2_with fail;refine GU 3 ?_;rw [BS];go_wp2_with (at_builtin;refine FH _ rfl (.tmp 33) (.tmp 37) 220 rfl (World.heap (((w.alloc (Obj.cells #[Value.int IntKind.i32 xl,Value.int IntKind.i32 xh] 172)).alloc (Obj.cells #[Value.int IntKind.i32 yl,Value.int IntKind.i32 yh] 172)).alloc (Obj.cells #[Value.int IntKind.i32 0,Value.int IntKind.i32 0] 172))).size 2 i0 (.int .i64 0) 1 8 FB hi hz0 hz1 hz2 rfl AP _ _ _ rfl (hown2.alloc _) ⟨y2.w.heap.size,0,none⟩ 1 1 [.int .i64 (xh*yl)] rfl rfl (Du _ _ _) Bd CJ A0 (Ext.Eo y2 _) ?_;intro v3 w1 Hh hgrow _);obtain⟨y3,rfl⟩:=N2 y2 hown2 hgrow;clear hgrow;go_wp2_with fail;rw [BS];go_wp2_with (at_builtin;refine FH _ rfl (.tmp 33) (.tmp 37) 220 rfl (World.heap (((w.alloc (Obj.cells #[Value.int IntKind.i32 xl,Value.int IntKind.i32 xh] 172)).alloc (Obj.cells #[Value.int IntKind.i32 yl,Value.int IntKind.i32 yh] 172)).alloc (Obj.cells #[Value.int IntKind.i32 0,Value.int IntKind.i32 0] 172))).size 2 i0 (.int .i64 0) 1 8 FB hi hz0 hz1 hz2 rfl AP _ _ _ rfl (Hh.alloc _) ⟨y3.w.heap.size,0,none⟩ 1 1 [.int .i64 (xh*yh)] rfl rfl (Du _ _ _) Bd CJ A0 (Ext.Eo y3 _) ?_;intro v4 w1 MW hgrow _);obtain⟨y4,rfl⟩:=N2 y3 Hh hgrow;clear hgrow;go_wp2_with fail;rw [BS];go_wp2_with fail;rw [BS];go_wp2_with fail;obtain⟨g,cap,hv,hg,hc⟩:=VR (l:=[xl*yl,xl*yh,xh*yl,xh*yh]) rfl (by simpa using MW) AR;rw [hv];clear hv G6 hown1 hown2 Hh MW;refine (Calls.AW (Td g cap [xl*yl,xl*yh,xh*yl,xh*yh] y4.w AR AR hg hc)).mono ?_;rintro e _ ⟨rfl,y5,rfl⟩;clear hc
 go_wp2
 all_goals
  refine Af (v:=.agg #[.int .i32 (Au [xl*yl,xl*yh,xh*yl,xh*yh]).1,.int .i32 (Au [xl*yl,xl*yh,xh*yl,xh*yh]).2]) ?hr rfl ⟨rfl,?AA⟩;case hr=>
   simp [results,Tryz.results144,go_sem]
  case AA=>
   exact CH
theorem agn {P:Program} (d:Nat) {t:TypeId} {k:IntKind} (h:P.underlying t=some (.int k)) (a b:Int) (w:World):(Op.equalIn (d+1) t (.int k a) (.int k b)).run P w=.ok (a==b) w:=by
 simp [Op.equalIn,QB h]
theorem aj8 (a b:Int) (w:World):(part 21 #[.int .i32 a,.int .i32 b] 0).run Tryz.prog w=.ok (.int .i32 a) w:=by kernel_rfl
theorem amm (a b:Int) (w:World):(part 21 #[.int .i32 a,.int .i32 b] 1).run Tryz.prog w=.ok (.int .i32 b) w:=by kernel_rfl
theorem wH (d:Nat) (a b c e:Int) (w:World):(Op.equalIn (d+1+1) 172 (.agg #[.int .i32 a,.int .i32 b]) (.agg #[.int .i32 c,.int .i32 e])).run Tryz.prog w=.ok (a==c && b==e) w:=by
 rw [Op.equalIn];simp [QB Tryz.underlying172,agn d Tryz.underlying21,aj8,amm,QH];by_cases h1:a=c<;>by_cases h2:b=e<;>simp [h1,h2]
theorem Ki (a b c d:Int) (w:World):(binOp .eql 172 (.agg #[.int .i32 a,.int .i32 b]) (.agg #[.int .i32 c,.int .i32 d])).run Tryz.prog w=.ok (.bool (a==c && b==d)) w:=by
 simp only [binOp];simp [Op.equal,Op.maxDepth,wH 9998]
def OC (y:Int×Int):Int:=max (max (max (-y.1) y.1) (-y.2)) y.2 - 1
def FE (x y:Int×Int):Int×Int:=if y.1=0∧y.2=0 then (1,0) else (if x.1<0 then max x.1 (-OC y) else 0,if 0<x.2 then min x.2 (OC y) else 0)
theorem atm (a b c d:Int) (w:World):(Builtin.max_ #[2,2,2,2] 2 #[.int .i64 a,.int .i64 b,.int .i64 c,.int .i64 d]).run Tryz.prog w=.ok (.int .i64 (max (max (max a b) c) d)) w:=by
 have m2:∀(x y:Int) (w:World),(Builtin.max2 (.int .i64 x) (.int .i64 y)).run Tryz.prog w=.ok (.int .i64 (max x y)) w:=by
  intro x y w;simp only [Builtin.max2];by_cases h:x<y
  ·simp [h];omega
  ·simp [h];omega
 simp [Builtin.max_,m2]
theorem apL (xl xh:Int) (w:World) :
  Calls Tryz.prog 146 #[.agg #[.int .i32 xl,.int .i32 xh],.agg #[.int .i32 0,.int .i32 0]] w fun e w'=>e=.returned (.agg #[.int .i32 (FE (xl,xh) (0,0)).1,.int .i32 (FE (xl,xh) (0,0)).2])∧Below w.heap.size w w':=by
 have HF:=A3 (show FE (xl,xh) (0,0)=(1,0) from rfl);have he:=Ki;go_enter Tryz.func146,Tryz.ntmps146;go_wp2_with fail;refine C7 A4 A4 ?_;repeat (go_big_quiet_step (exact Calls.AW (Ed _ _)))
 refine BD ?_;rintro _ ⟨x1,rfl⟩;go_wp2_with fail;refine (Calls.AW (C9 _)).mono ?_;rintro e _ ⟨rfl,y,rfl⟩
 go_wp2
 all_goals
  refine Af (v:=.agg #[.int .i32 (FE (xl,xh) (0,0)).1,.int .i32 (FE (xl,xh) (0,0)).2]) ?hr rfl ⟨rfl,?AA⟩;case hr=>
   simp [results,Tryz.results146,go_sem];rw [HF.out];constructor<;>rfl
  case AA=>
   exact CH
theorem arY (xl xh yl yh:Int) (w:World) (hx1 : -2147483648≤xl) (hx2:xl≤2147483647) (hx3 : -2147483648≤xh) (hx4:xh≤2147483647) (hy1 : -2147483648≤yl) (hy2:yl≤2147483647) (hy3 : -2147483648≤yh) (hy4:yh≤2147483647) (hy0:yl≤yh) (hne:(yl==0 && yh==0)=false) :
  Calls Tryz.prog 146 #[.agg #[.int .i32 xl,.int .i32 xh],.agg #[.int .i32 yl,.int .i32 yh]] w fun e w'=>e=.returned (.agg #[.int .i32 (FE (xl,xh) (yl,yh)).1,.int .i32 (FE (xl,xh) (yl,yh)).2])∧Below w.heap.size w w':=by
 have hz:¬(yl=0∧yh=0):=by simpa using hne
 have hf:FE (xl,xh) (yl,yh)=(if xl<0 then max xl (-OC (yl,yh)) else 0,if 0<xh then min xh (OC (yl,yh)) else 0):=by unfold FE;rw [A6 hz]
 have hm:max (max (max (-yl) yl) (-yh)) yh - 1=OC (yl,yh):=rfl;have HF:=A3 hf;have hM0:0≤OC (yl,yh):=by rw [←hm];omega
 have hM1:OC (yl,yh)≤2147483647:=by rw [←hm];omega
 have he:=Ki;have h4:=atm;have HM:=A3 hm;clear hz hf hm;go_enter Tryz.func146,Tryz.ntmps146;go_wp2_with fail;refine C7 A4 A4 ?_;repeat (go_big_quiet_step (exact Calls.AW (Ed _ _)))
 refine BD ?_;rintro _ ⟨x1,rfl⟩;go_wp2_with fail;all_goals
  refine Af (v:=.agg #[.int .i32 (FE (xl,xh) (yl,yh)).1,.int .i32 (FE (xl,xh) (yl,yh)).2]) ?hr rfl ⟨rfl,?AA⟩;case hr=>
   simp [results,Tryz.results146,go_sem];rw [HF.out];have hm:=HM.out;constructor<;>dsimp only<;>split<;>omega
  case AA=>
   exact CH
theorem dY (xl xh yl yh:Int) (w:World) (hx1 : -2147483648≤xl) (hx2:xl≤2147483647) (hx3 : -2147483648≤xh) (hx4:xh≤2147483647) (hy1 : -2147483648≤yl) (hy2:yl≤2147483647) (hy3 : -2147483648≤yh) (hy4:yh≤2147483647) (hy0:yl≤yh) :
  Calls Tryz.prog 146 #[.agg #[.int .i32 xl,.int .i32 xh],.agg #[.int .i32 yl,.int .i32 yh]] w fun e w'=>e=.returned (.agg #[.int .i32 (FE (xl,xh) (yl,yh)).1,.int .i32 (FE (xl,xh) (yl,yh)).2])∧Below w.heap.size w w':=by
 by_cases h0:yl=0∧yh=0
 ·obtain⟨rfl,rfl⟩:=h0
  exact apL xl xh w
 ·exact arY xl xh yl yh w hx1 hx2 hx3 hx4 hy1 hy2 hy3 hy4 hy0 (by simpa using h0)
theorem aqT (xl xh yl yh:Int) (w:World) (hx1 : -2147483648≤xl) (hx2:xl≤2147483647) (hx3 : -2147483648≤xh) (hx4:xh≤2147483647) (hy1 : -2147483648≤yl) (hy2:yl≤2147483647) (hy3 : -2147483648≤yh) (hy4:yh≤2147483647) (EE:xl≤xh) (FC:yl≤yh) (hs:(xl==xh)=false) :
  Calls Tryz.prog 131 #[.int .u8 6,.agg #[.int .i32 xl,.int .i32 xh],.agg #[.int .i32 yl,.int .i32 yh]] w fun e w'=>e=.returned (.agg #[.int .i32 (Au [xl+yl,xl+yh,xh+yl,xh+yh]).1,.int .i32 (Au [xl+yl,xl+yh,xh+yl,xh+yh]).2])∧Below w.heap.size w w':=by
 have d1:decide (xh<xl)=false:=by simp;omega
 have d2:decide (yh<yl)=false:=by simp;omega
 go_enter LI,LD;go_wp2_with (first|(go_at_call 127;((first|(with_reducible refine (Calls.AW (Ar _ _ _)).mono ?_)|(refine (Calls.ext (Ar _ _ _)).mono ?_));rintro e _ ⟨rfl,y,rfl⟩))|(go_at_call 143;((first|(with_reducible refine (Calls.AW (Dt _ _ _)).mono ?_)|(refine (Calls.ext (Dt _ _ _)).mono ?_));rintro e _ ⟨rfl,y,rfl⟩))|(go_at_call 144;((first|(with_reducible refine (Calls.AW (aj _ _ _ _ _ hx1 hx2 hx3 hx4 hy1 hy2 hy3 hy4)).mono ?_)|(refine (Calls.ext (aj _ _ _ _ _ hx1 hx2 hx3 hx4 hy1 hy2 hy3 hy4)).mono ?_));rintro e _ ⟨rfl,y,rfl⟩)));all_goals
  refine Af (v:=.agg #[.int .i32 (Au [xl+yl,xl+yh,xh+yl,xh+yh]).1,.int .i32 (Au [xl+yl,xl+yh,xh+yl,xh+yh]).2]) ?hr rfl ⟨rfl,?AA⟩;case hr=>
   simp [results,Le,go_sem]
  case AA=>
   exact CH
theorem agv (xl xh yl yh:Int) (w:World) (hx1 : -2147483648≤xl) (hx2:xl≤2147483647) (hx3 : -2147483648≤xh) (hx4:xh≤2147483647) (hy1 : -2147483648≤yl) (hy2:yl≤2147483647) (hy3 : -2147483648≤yh) (hy4:yh≤2147483647) (EE:xl≤xh) (FC:yl≤yh) (hs:(xl==xh)=true) (hs':(yl==yh)=false) :
  Calls Tryz.prog 131 #[.int .u8 6,.agg #[.int .i32 xl,.int .i32 xh],.agg #[.int .i32 yl,.int .i32 yh]] w fun e w'=>e=.returned (.agg #[.int .i32 (Au [xl+yl,xl+yh,xh+yl,xh+yh]).1,.int .i32 (Au [xl+yl,xl+yh,xh+yl,xh+yh]).2])∧Below w.heap.size w w':=by
 have d1:decide (xh<xl)=false:=by simp;omega
 have d2:decide (yh<yl)=false:=by simp;omega
 go_enter LI,LD;go_wp2_with (first|(go_at_call 127;((first|(with_reducible refine (Calls.AW (Ar _ _ _)).mono ?_)|(refine (Calls.ext (Ar _ _ _)).mono ?_));rintro e _ ⟨rfl,y,rfl⟩))|(go_at_call 143;((first|(with_reducible refine (Calls.AW (Dt _ _ _)).mono ?_)|(refine (Calls.ext (Dt _ _ _)).mono ?_));rintro e _ ⟨rfl,y,rfl⟩))|(go_at_call 144;((first|(with_reducible refine (Calls.AW (aj _ _ _ _ _ hx1 hx2 hx3 hx4 hy1 hy2 hy3 hy4)).mono ?_)|(refine (Calls.ext (aj _ _ _ _ _ hx1 hx2 hx3 hx4 hy1 hy2 hy3 hy4)).mono ?_));rintro e _ ⟨rfl,y,rfl⟩)));all_goals
  refine Af (v:=.agg #[.int .i32 (Au [xl+yl,xl+yh,xh+yl,xh+yh]).1,.int .i32 (Au [xl+yl,xl+yh,xh+yl,xh+yh]).2]) ?hr rfl ⟨rfl,?AA⟩;case hr=>
   simp [results,Le,go_sem]
  case AA=>
   exact CH
theorem alv (xl xh yl yh:Int) (w:World) (hx1 : -2147483648≤xl) (hx2:xl≤2147483647) (hx3 : -2147483648≤xh) (hx4:xh≤2147483647) (hy1 : -2147483648≤yl) (hy2:yl≤2147483647) (hy3 : -2147483648≤yh) (hy4:yh≤2147483647) (EE:xl≤xh) (FC:yl≤yh) (hs:¬(xl=xh∧yl=yh)) :
  Calls Tryz.prog 131 #[.int .u8 6,.agg #[.int .i32 xl,.int .i32 xh],.agg #[.int .i32 yl,.int .i32 yh]] w fun e w'=>e=.returned (.agg #[.int .i32 (Au [xl+yl,xl+yh,xh+yl,xh+yh]).1,.int .i32 (Au [xl+yl,xl+yh,xh+yl,xh+yh]).2])∧Below w.heap.size w w':=by
 by_cases h:xl=xh
 ·exact agv xl xh yl yh w hx1 hx2 hx3 hx4 hy1 hy2 hy3 hy4 EE FC Nv CD
 ·exact aqT xl xh yl yh w hx1 hx2 hx3 hx4 hy1 hy2 hy3 hy4 EE FC Nv
theorem aqy (xl xh yl yh:Int) (w:World) (hx1 : -2147483648≤xl) (hx2:xl≤2147483647) (hx3 : -2147483648≤xh) (hx4:xh≤2147483647) (hy1 : -2147483648≤yl) (hy2:yl≤2147483647) (hy3 : -2147483648≤yh) (hy4:yh≤2147483647) (EE:xl≤xh) (FC:yl≤yh) (hs:(xl==xh)=false) :
  Calls Tryz.prog 131 #[.int .u8 7,.agg #[.int .i32 xl,.int .i32 xh],.agg #[.int .i32 yl,.int .i32 yh]] w fun e w'=>e=.returned (.agg #[.int .i32 (Au [xl - yl,xl - yh,xh - yl,xh - yh]).1,.int .i32 (Au [xl - yl,xl - yh,xh - yl,xh - yh]).2])∧Below w.heap.size w w':=by
 have d1:decide (xh<xl)=false:=by simp;omega
 have d2:decide (yh<yl)=false:=by simp;omega
 go_enter LI,LD;go_wp2_with (first|(go_at_call 127;((first|(with_reducible refine (Calls.AW (Ar _ _ _)).mono ?_)|(refine (Calls.ext (Ar _ _ _)).mono ?_));rintro e _ ⟨rfl,y,rfl⟩))|(go_at_call 143;((first|(with_reducible refine (Calls.AW (Dt _ _ _)).mono ?_)|(refine (Calls.ext (Dt _ _ _)).mono ?_));rintro e _ ⟨rfl,y,rfl⟩))|(go_at_call 144;((first|(with_reducible refine (Calls.AW (aC _ _ _ _ _ hx1 hx2 hx3 hx4 hy1 hy2 hy3 hy4)).mono ?_)|(refine (Calls.ext (aC _ _ _ _ _ hx1 hx2 hx3 hx4 hy1 hy2 hy3 hy4)).mono ?_));rintro e _ ⟨rfl,y,rfl⟩)));all_goals
  refine Af (v:=.agg #[.int .i32 (Au [xl - yl,xl - yh,xh - yl,xh - yh]).1,.int .i32 (Au [xl - yl,xl - yh,xh - yl,xh - yh]).2]) ?hr rfl ⟨rfl,?AA⟩;case hr=>
   simp [results,Le,go_sem]
  case AA=>
   exact CH
theorem atr (xl xh yl yh:Int) (w:World) (hx1 : -2147483648≤xl) (hx2:xl≤2147483647) (hx3 : -2147483648≤xh) (hx4:xh≤2147483647) (hy1 : -2147483648≤yl) (hy2:yl≤2147483647) (hy3 : -2147483648≤yh) (hy4:yh≤2147483647) (EE:xl≤xh) (FC:yl≤yh) (hs:(xl==xh)=true) (hs':(yl==yh)=false) :
  Calls Tryz.prog 131 #[.int .u8 7,.agg #[.int .i32 xl,.int .i32 xh],.agg #[.int .i32 yl,.int .i32 yh]] w fun e w'=>e=.returned (.agg #[.int .i32 (Au [xl - yl,xl - yh,xh - yl,xh - yh]).1,.int .i32 (Au [xl - yl,xl - yh,xh - yl,xh - yh]).2])∧Below w.heap.size w w':=by
 have d1:decide (xh<xl)=false:=by simp;omega
 have d2:decide (yh<yl)=false:=by simp;omega
 go_enter LI,LD;go_wp2_with (first|(go_at_call 127;((first|(with_reducible refine (Calls.AW (Ar _ _ _)).mono ?_)|(refine (Calls.ext (Ar _ _ _)).mono ?_));rintro e _ ⟨rfl,y,rfl⟩))|(go_at_call 143;((first|(with_reducible refine (Calls.AW (Dt _ _ _)).mono ?_)|(refine (Calls.ext (Dt _ _ _)).mono ?_));rintro e _ ⟨rfl,y,rfl⟩))|(go_at_call 144;((first|(with_reducible refine (Calls.AW (aC _ _ _ _ _ hx1 hx2 hx3 hx4 hy1 hy2 hy3 hy4)).mono ?_)|(refine (Calls.ext (aC _ _ _ _ _ hx1 hx2 hx3 hx4 hy1 hy2 hy3 hy4)).mono ?_));rintro e _ ⟨rfl,y,rfl⟩)));all_goals
  refine Af (v:=.agg #[.int .i32 (Au [xl - yl,xl - yh,xh - yl,xh - yh]).1,.int .i32 (Au [xl - yl,xl - yh,xh - yl,xh - yh]).2]) ?hr rfl ⟨rfl,?AA⟩;case hr=>
   simp [results,Le,go_sem]
  case AA=>
   exact CH
theorem abq (xl xh yl yh:Int) (w:World) (hx1 : -2147483648≤xl) (hx2:xl≤2147483647) (hx3 : -2147483648≤xh) (hx4:xh≤2147483647) (hy1 : -2147483648≤yl) (hy2:yl≤2147483647) (hy3 : -2147483648≤yh) (hy4:yh≤2147483647) (EE:xl≤xh) (FC:yl≤yh) (hs:¬(xl=xh∧yl=yh)) :
  Calls Tryz.prog 131 #[.int .u8 7,.agg #[.int .i32 xl,.int .i32 xh],.agg #[.int .i32 yl,.int .i32 yh]] w fun e w'=>e=.returned (.agg #[.int .i32 (Au [xl - yl,xl - yh,xh - yl,xh - yh]).1,.int .i32 (Au [xl - yl,xl - yh,xh - yl,xh - yh]).2])∧Below w.heap.size w w':=by
 by_cases h:xl=xh
 ·exact atr xl xh yl yh w hx1 hx2 hx3 hx4 hy1 hy2 hy3 hy4 EE FC Nv CD
 ·exact aqy xl xh yl yh w hx1 hx2 hx3 hx4 hy1 hy2 hy3 hy4 EE FC Nv
theorem yy (xl xh yl yh:Int) (w:World) (hx1 : -2147483648≤xl) (hx2:xl≤2147483647) (hx3 : -2147483648≤xh) (hx4:xh≤2147483647) (hy1 : -2147483648≤yl) (hy2:yl≤2147483647) (hy3 : -2147483648≤yh) (hy4:yh≤2147483647) (EE:xl≤xh) (FC:yl≤yh) (hs:(xl==xh)=false) :
  Calls Tryz.prog 131 #[.int .u8 8,.agg #[.int .i32 xl,.int .i32 xh],.agg #[.int .i32 yl,.int .i32 yh]] w fun e w'=>e=.returned (.agg #[.int .i32 (Au [xl*yl,xl*yh,xh*yl,xh*yh]).1,.int .i32 (Au [xl*yl,xl*yh,xh*yl,xh*yh]).2])∧Below w.heap.size w w':=by
 have d1:decide (xh<xl)=false:=by simp;omega
 have d2:decide (yh<yl)=false:=by simp;omega
 go_enter LI,LD;go_wp2_with (first|(go_at_call 127;((first|(with_reducible refine (Calls.AW (Ar _ _ _)).mono ?_)|(refine (Calls.ext (Ar _ _ _)).mono ?_));rintro e _ ⟨rfl,y,rfl⟩))|(go_at_call 143;((first|(with_reducible refine (Calls.AW (Dt _ _ _)).mono ?_)|(refine (Calls.ext (Dt _ _ _)).mono ?_));rintro e _ ⟨rfl,y,rfl⟩))|(go_at_call 144;((first|(with_reducible refine (Calls.AW (bH _ _ _ _ _ hx1 hx2 hx3 hx4 hy1 hy2 hy3 hy4)).mono ?_)|(refine (Calls.ext (bH _ _ _ _ _ hx1 hx2 hx3 hx4 hy1 hy2 hy3 hy4)).mono ?_));rintro e _ ⟨rfl,y,rfl⟩)));all_goals
  refine Af (v:=.agg #[.int .i32 (Au [xl*yl,xl*yh,xh*yl,xh*yh]).1,.int .i32 (Au [xl*yl,xl*yh,xh*yl,xh*yh]).2]) ?hr rfl ⟨rfl,?AA⟩;case hr=>
   simp [results,Le,go_sem]
  case AA=>
   exact CH
theorem atg (xl xh yl yh:Int) (w:World) (hx1 : -2147483648≤xl) (hx2:xl≤2147483647) (hx3 : -2147483648≤xh) (hx4:xh≤2147483647) (hy1 : -2147483648≤yl) (hy2:yl≤2147483647) (hy3 : -2147483648≤yh) (hy4:yh≤2147483647) (EE:xl≤xh) (FC:yl≤yh) (hs:(xl==xh)=true) (hs':(yl==yh)=false) :
  Calls Tryz.prog 131 #[.int .u8 8,.agg #[.int .i32 xl,.int .i32 xh],.agg #[.int .i32 yl,.int .i32 yh]] w fun e w'=>e=.returned (.agg #[.int .i32 (Au [xl*yl,xl*yh,xh*yl,xh*yh]).1,.int .i32 (Au [xl*yl,xl*yh,xh*yl,xh*yh]).2])∧Below w.heap.size w w':=by
 have d1:decide (xh<xl)=false:=by simp;omega
 have d2:decide (yh<yl)=false:=by simp;omega
 go_enter LI,LD;go_wp2_with (first|(go_at_call 127;((first|(with_reducible refine (Calls.AW (Ar _ _ _)).mono ?_)|(refine (Calls.ext (Ar _ _ _)).mono ?_));rintro e _ ⟨rfl,y,rfl⟩))|(go_at_call 143;((first|(with_reducible refine (Calls.AW (Dt _ _ _)).mono ?_)|(refine (Calls.ext (Dt _ _ _)).mono ?_));rintro e _ ⟨rfl,y,rfl⟩))|(go_at_call 144;((first|(with_reducible refine (Calls.AW (bH _ _ _ _ _ hx1 hx2 hx3 hx4 hy1 hy2 hy3 hy4)).mono ?_)|(refine (Calls.ext (bH _ _ _ _ _ hx1 hx2 hx3 hx4 hy1 hy2 hy3 hy4)).mono ?_));rintro e _ ⟨rfl,y,rfl⟩)));all_goals
  refine Af (v:=.agg #[.int .i32 (Au [xl*yl,xl*yh,xh*yl,xh*yh]).1,.int .i32 (Au [xl*yl,xl*yh,xh*yl,xh*yh]).2]) ?hr rfl ⟨rfl,?AA⟩;case hr=>
   simp [results,Le,go_sem]
  case AA=>
   exact CH
theorem as0 (xl xh yl yh:Int) (w:World) (hx1 : -2147483648≤xl) (hx2:xl≤2147483647) (hx3 : -2147483648≤xh) (hx4:xh≤2147483647) (hy1 : -2147483648≤yl) (hy2:yl≤2147483647) (hy3 : -2147483648≤yh) (hy4:yh≤2147483647) (EE:xl≤xh) (FC:yl≤yh) (hs:¬(xl=xh∧yl=yh)) :
  Calls Tryz.prog 131 #[.int .u8 8,.agg #[.int .i32 xl,.int .i32 xh],.agg #[.int .i32 yl,.int .i32 yh]] w fun e w'=>e=.returned (.agg #[.int .i32 (Au [xl*yl,xl*yh,xh*yl,xh*yh]).1,.int .i32 (Au [xl*yl,xl*yh,xh*yl,xh*yh]).2])∧Below w.heap.size w w':=by
 by_cases h:xl=xh
 ·exact atg xl xh yl yh w hx1 hx2 hx3 hx4 hy1 hy2 hy3 hy4 EE FC Nv CD
 ·exact yy xl xh yl yh w hx1 hx2 hx3 hx4 hy1 hy2 hy3 hy4 EE FC Nv
theorem ao2 (xl xh yl yh:Int) (w:World) (hx1 : -2147483648≤xl) (hx2:xl≤2147483647) (hx3 : -2147483648≤xh) (hx4:xh≤2147483647) (hy1 : -2147483648≤yl) (hy2:yl≤2147483647) (hy3 : -2147483648≤yh) (hy4:yh≤2147483647) (EE:xl≤xh) (FC:yl≤yh) (hs:(xl==xh)=false) :
  Calls Tryz.prog 131 #[.int .u8 10,.agg #[.int .i32 xl,.int .i32 xh],.agg #[.int .i32 yl,.int .i32 yh]] w fun e w'=>e=.returned (.agg #[.int .i32 (FE (xl,xh) (yl,yh)).1,.int .i32 (FE (xl,xh) (yl,yh)).2])∧Below w.heap.size w w':=by
 have d1:decide (xh<xl)=false:=by simp;omega
 have d2:decide (yh<yl)=false:=by simp;omega
 go_enter LI,LD;go_wp2_with (first|(go_at_call 127;((first|(with_reducible refine (Calls.AW (Ar _ _ _)).mono ?_)|(refine (Calls.ext (Ar _ _ _)).mono ?_));rintro e _ ⟨rfl,y,rfl⟩))|(go_at_call 143;((first|(with_reducible refine (Calls.AW (Dt _ _ _)).mono ?_)|(refine (Calls.ext (Dt _ _ _)).mono ?_));rintro e _ ⟨rfl,y,rfl⟩))|(go_at_call 146;((first|(with_reducible refine (Calls.AW (dY _ _ _ _ _ hx1 hx2 hx3 hx4 hy1 hy2 hy3 hy4 FC)).mono ?_)|(refine (Calls.ext (dY _ _ _ _ _ hx1 hx2 hx3 hx4 hy1 hy2 hy3 hy4 FC)).mono ?_));rintro e _ ⟨rfl,y,rfl⟩)));all_goals
  refine Af (v:=.agg #[.int .i32 (FE (xl,xh) (yl,yh)).1,.int .i32 (FE (xl,xh) (yl,yh)).2]) ?hr rfl ⟨rfl,?AA⟩;case hr=>
   simp [results,Le,go_sem]
  case AA=>
   exact CH
theorem akP (xl xh yl yh:Int) (w:World) (hx1 : -2147483648≤xl) (hx2:xl≤2147483647) (hx3 : -2147483648≤xh) (hx4:xh≤2147483647) (hy1 : -2147483648≤yl) (hy2:yl≤2147483647) (hy3 : -2147483648≤yh) (hy4:yh≤2147483647) (EE:xl≤xh) (FC:yl≤yh) (hs:(xl==xh)=true) (hs':(yl==yh)=false) :
  Calls Tryz.prog 131 #[.int .u8 10,.agg #[.int .i32 xl,.int .i32 xh],.agg #[.int .i32 yl,.int .i32 yh]] w fun e w'=>e=.returned (.agg #[.int .i32 (FE (xl,xh) (yl,yh)).1,.int .i32 (FE (xl,xh) (yl,yh)).2])∧Below w.heap.size w w':=by
 have d1:decide (xh<xl)=false:=by simp;omega
 have d2:decide (yh<yl)=false:=by simp;omega
 go_enter LI,LD;go_wp2_with (first|(go_at_call 127;((first|(with_reducible refine (Calls.AW (Ar _ _ _)).mono ?_)|(refine (Calls.ext (Ar _ _ _)).mono ?_));rintro e _ ⟨rfl,y,rfl⟩))|(go_at_call 143;((first|(with_reducible refine (Calls.AW (Dt _ _ _)).mono ?_)|(refine (Calls.ext (Dt _ _ _)).mono ?_));rintro e _ ⟨rfl,y,rfl⟩))|(go_at_call 146;((first|(with_reducible refine (Calls.AW (dY _ _ _ _ _ hx1 hx2 hx3 hx4 hy1 hy2 hy3 hy4 FC)).mono ?_)|(refine (Calls.ext (dY _ _ _ _ _ hx1 hx2 hx3 hx4 hy1 hy2 hy3 hy4 FC)).mono ?_));rintro e _ ⟨rfl,y,rfl⟩)));all_goals
  refine Af (v:=.agg #[.int .i32 (FE (xl,xh) (yl,yh)).1,.int .i32 (FE (xl,xh) (yl,yh)).2]) ?hr rfl ⟨rfl,?AA⟩;case hr=>
   simp [results,Le,go_sem]
  case AA=>
   exact CH
theorem arU (xl xh yl yh:Int) (w:World) (hx1 : -2147483648≤xl) (hx2:xl≤2147483647) (hx3 : -2147483648≤xh) (hx4:xh≤2147483647) (hy1 : -2147483648≤yl) (hy2:yl≤2147483647) (hy3 : -2147483648≤yh) (hy4:yh≤2147483647) (EE:xl≤xh) (FC:yl≤yh) (hs:¬(xl=xh∧yl=yh)) :
  Calls Tryz.prog 131 #[.int .u8 10,.agg #[.int .i32 xl,.int .i32 xh],.agg #[.int .i32 yl,.int .i32 yh]] w fun e w'=>e=.returned (.agg #[.int .i32 (FE (xl,xh) (yl,yh)).1,.int .i32 (FE (xl,xh) (yl,yh)).2])∧Below w.heap.size w w':=by
 by_cases h:xl=xh
 ·exact akP xl xh yl yh w hx1 hx2 hx3 hx4 hy1 hy2 hy3 hy4 EE FC Nv CD
 ·exact ao2 xl xh yl yh w hx1 hx2 hx3 hx4 hy1 hy2 hy3 hy4 EE FC Nv
theorem jN {q p:Int×Int} (h:q=p):Ending.returned (.agg #[.int .i32 q.1,.int .i32 q.2])=.returned (.agg #[.int .i32 p.1,.int .i32 p.2]):=by rw [h]
theorem Ext.ne1 {w0:World} (x:Ext w0) (b:Nat) (hb:b<w0.heap.size):(b=x.w.heap.size)=False:=by have:=x.h.size;simp;omega
theorem Ext.ne2 {w0:World} (x:Ext w0) (b:Nat) (hb:b<w0.heap.size):(x.w.heap.size=b)=False:=by have:=x.h.size;simp;omega
theorem Ext.ge {w0:World} {o:Obj} (x:Ext (w0.alloc o)):w0.heap.size+1≤x.w.heap.size:=by simp
attribute [simp] Ext.ne1 Ext.ne2
def E8 (W0 w':World):Prop:=Below W0.heap.size W0 w'
theorem E8.cell {W0 w':World} (h:E8 W0 w') (b o:Nat) (hb:b<W0.heap.size):w'.cell? ⟨b,o,none⟩=W0.cell? ⟨b,o,none⟩:=Below.cell (p:=⟨b,o,none⟩) h hb
theorem E8.alloc {W0 w':World} (h:E8 W0 w') (o:Obj):E8 W0 (w'.alloc o):=MU h h.size o
theorem E8.ext {W0 w':World} (h:E8 W0 w') (y:Ext w'):E8 W0 y.w:=Ext.below h h.size y
theorem E8.set {W0 w':World} (h:E8 W0 w') {g j:Nat} (hg:W0.heap.size≤g) (v:Value):E8 W0 (w'.setCell ⟨g,j,none⟩ v):=CY h hg v
theorem E8.drew {W0 w':World} (h:E8 W0 w'):E8 W0 w'.drew:=Dl h
theorem ow {w w':World} {a b c:Obj} (h:E8 (((w.alloc a).alloc b).alloc c) w'):w.heap.size+1+1+1≤w'.heap.size:=by
 have:=h.size;simpa using this
theorem aqB {n:Nat} {W0 w':World} (hn:n=W0.heap.size) (h:E8 W0 w'):(∀b o,b<n→w'.cell? ⟨b,o,none⟩=W0.cell? ⟨b,o,none⟩)∧E8 W0 w':=
 ⟨fun b o hb=>h.cell b o A0,h⟩
theorem Ie {P:Program} {f:FuncId} {args:Array Value} {w:World} {b c:Bool} (h:Calls P f args w fun e w'=>e=.returned (.bool b)∧Below w.heap.size w w') (hb:b=c) :
  Calls P f args w fun e w'=>e=.returned (.bool c)∧Below w.heap.size w w':=hb▸h
end
section
open Go.Shelf
def OJ (op:Int) (x y:Int×Int):Int×Int:=
 if op=16 then CR false (emp (Ao x y)) else if op=17 then CR (emp (Ao x y)) false
 else if op=18 then CR (decide (x.2<y.1)) (decide (y.2≤x.1)) else if op=19 then CR (decide (x.2≤y.1)) (decide (y.2<x.1))
 else if op=20 then CR (decide (y.2<x.1)) (decide (x.2≤y.1)) else CR (decide (y.2≤x.1)) (decide (x.2<y.1))
def NY (x:Int×Int):Bool:=decide (x.1≤0) && decide (0≤x.2)
def is0 (x:Int×Int):Bool:=x.1==0 && x.2==0
def Q8 (op:Int) (x y:Int×Int):Int×Int:=
 if op=22 then CR (!NY x && !NY y) (is0 x || is0 y) else CR (!NY x || !NY y) (is0 x && is0 y)
theorem xx (xl xh yl yh zl zh:Int) (w:World) (y:Ext (((w.alloc (Obj.cells #[Value.int IntKind.i32 xl,Value.int IntKind.i32 xh] 172)).alloc (Obj.cells #[Value.int IntKind.i32 yl,Value.int IntKind.i32 yh] 172)).alloc (Obj.cells #[Value.int IntKind.i32 0,Value.int IntKind.i32 0] 172))) :
  ∃(W:World) (g:Nat),y.w.alloc (Obj.cells #[Value.int IntKind.i32 zl,Value.int IntKind.i32 zh] 172)=W∧y.w.heap.size=g∧Below w.heap.size w W∧w.heap.size<W.heap.size∧w.heap.size+1<W.heap.size∧w.heap.size+1+1<W.heap.size∧w.heap.size+1+1<g∧g<W.heap.size∧W.cell? ⟨w.heap.size,0,none⟩=some (.int .i32 xl)∧W.frozen? ⟨w.heap.size,0,none⟩=false∧W.cell? ⟨w.heap.size,1,none⟩=some (.int .i32 xh)∧W.frozen? ⟨w.heap.size,1,none⟩=false∧W.cell? ⟨w.heap.size+1,0,none⟩=some (.int .i32 yl)∧W.frozen? ⟨w.heap.size+1,0,none⟩=false∧W.cell? ⟨w.heap.size+1,1,none⟩=some (.int .i32 yh)∧W.frozen? ⟨w.heap.size+1,1,none⟩=false∧W.cell? ⟨w.heap.size+1+1,0,none⟩=some (.int .i32 0)∧W.frozen? ⟨w.heap.size+1+1,0,none⟩=false∧W.cell? ⟨w.heap.size+1+1,1,none⟩=some (.int .i32 0)∧W.frozen? ⟨w.heap.size+1+1,1,none⟩=false∧W.cell? ⟨g,0,none⟩=some (.int .i32 zl)∧W.frozen? ⟨g,0,none⟩=false∧W.cell? ⟨g,1,none⟩=some (.int .i32 zh)∧W.frozen? ⟨g,1,none⟩=false:=by
 have hs:w.heap.size+1+1+1≤y.w.heap.size:=ow y.h;have s0:w.heap.size<y.w.heap.size:=by omega
 have s1:w.heap.size+1<y.w.heap.size:=by omega
 have s2:w.heap.size+1+1<y.w.heap.size:=by omega
 refine⟨_,_,rfl,rfl,?_,?_,?_,?_,s2,by simp,?_⟩
 ·(repeat (first|exact AV _ _|refine CY ?_ ?_ _|refine Ext.below ?_ ?_ _|refine MU ?_ ?_ _))<;>(first|(simp;done)|(simp;omega)|omega|(simp only [eZ,F9];refine FK ?_ (Y9 (Ext.h _));simp only [eZ,F9];omega))
 ·rw [F9];omega
 ·rw [F9];omega
 ·rw [F9];omega
 ·refine⟨?_,?_,?_,?_,?_,?_,?_,?_,?_,?_,?_,?_,?_,?_,?_,?_⟩
  all_goals (go_simp;done)
theorem Uz (op xl xh yl yh:Int) (A N:Bool) (w:World) (hop:(op=16∧A=false∧N=emp (Ao (xl,xh) (yl,yh)))∨(op=17∧A=emp (Ao (xl,xh) (yl,yh))∧N=false)∨(op=18∧A=decide (xh<yl)∧N=decide (yh≤xl))∨(op=19∧A=decide (xh≤yl)∧N=decide (yh<xl))∨(op=20∧A=decide (yh<xl)∧N=decide (xh≤yl))∨(op=21∧A=decide (yh≤xl)∧N=decide (xh<yl))) :
  Calls Tryz.prog 150 #[.int .u8 op,.agg #[.int .i32 xl,.int .i32 xh],.agg #[.int .i32 yl,.int .i32 yh]] w fun e w'=>e=.returned (.agg #[.int .i32 (CR A N).1,.int .i32 (CR A N).2])∧Below w.heap.size w w':=by
 rcases hop with⟨rfl,rfl,rfl⟩|⟨rfl,rfl,rfl⟩|⟨rfl,rfl,rfl⟩|⟨rfl,rfl,rfl⟩|⟨rfl,rfl,rfl⟩|⟨rfl,rfl,rfl⟩;all_goals
  go_enter Tryz.func150,Tryz.ntmps150;go_wp2_with (first|(go_at_call 134;((first|(with_reducible refine (Calls.AW (aA _ _ _ _ _)).mono ?_)|(refine (Calls.ext (aA _ _ _ _ _)).mono ?_));rintro e _ ⟨rfl,y,rfl⟩))|(go_at_call 127;((first|(with_reducible refine (Calls.AW (Ar _ _ _)).mono ?_)|(refine (Calls.ext (Ar _ _ _)).mono ?_));rintro e _ ⟨rfl,y,rfl⟩))|(go_at_call 155;((first|(with_reducible refine (Calls.AW (gX _ _ _)).mono ?_)|(refine (Calls.ext (gX _ _ _)).mono ?_));rintro e _ ⟨rfl,y,rfl⟩)));all_goals
   refine Af (v:=_) ?hr rfl ⟨rfl,?AA⟩;case hr=>
    simp [results,Tryz.results150,go_sem];first|done|exact⟨rfl,rfl⟩
   case AA=>
    exact Ia
theorem atU (op xl xh yl yh:Int) (w:World) (h1:16≤op) (h2:op≤21) :
  Calls Tryz.prog 150 #[.int .u8 op,.agg #[.int .i32 xl,.int .i32 xh],.agg #[.int .i32 yl,.int .i32 yh]] w fun e w'=>e=.returned (.agg #[.int .i32 (OJ op (xl,xh) (yl,yh)).1,.int .i32 (OJ op (xl,xh) (yl,yh)).2])∧Below w.heap.size w w':=by
 have h:op=16∨op=17∨op=18∨op=19∨op=20∨op=21:=by omega
 rcases h with rfl|rfl|rfl|rfl|rfl|rfl
 ·exact Uz _ xl xh yl yh _ _ w (.inl ⟨rfl,rfl,rfl⟩)
 ·exact Uz _ xl xh yl yh _ _ w (.inr (.inl ⟨rfl,rfl,rfl⟩))
 ·exact Uz _ xl xh yl yh _ _ w (.inr (.inr (.inl ⟨rfl,rfl,rfl⟩)))
 ·exact Uz _ xl xh yl yh _ _ w (.inr (.inr (.inr (.inl ⟨rfl,rfl,rfl⟩))))
 ·exact Uz _ xl xh yl yh _ _ w (.inr (.inr (.inr (.inr (.inl ⟨rfl,rfl,rfl⟩)))))
 ·exact Uz _ xl xh yl yh _ _ w (.inr (.inr (.inr (.inr (.inr (⟨rfl,rfl,rfl⟩))))))
theorem oF (op xl xh yl yh:Int) (w:World) (A N b1 z1 b2 z2:Bool) (hop:(op=22∧A=(!b1 && !b2)∧N=(z1 || z2))∨(op=23∧A=(!b1 || !b2)∧N=(z1 && z2))) (BX:Hid ((decide (xl≤0) && decide (0≤xh))=b1)) (BY:Hid ((decide (yl≤0) && decide (0≤yh))=b2)) (zx:(xl==0 && xh==0)=z1) (zy:(yl==0 && yh==0)=z2) :
  Calls Tryz.prog 149 #[.int .u8 op,.agg #[.int .i32 xl,.int .i32 xh],.agg #[.int .i32 yl,.int .i32 yh]] w fun e w'=>e=.returned (.agg #[.int .i32 (CR A N).1,.int .i32 (CR A N).2])∧Below w.heap.size w w':=by
 have e2:=Ki;rcases hop with⟨rfl,rfl,rfl⟩|⟨rfl,rfl,rfl⟩<;>cases b1<;>cases z1;all_goals
  go_enter Tryz.func149,Tryz.ntmps149;go_wp2_with fail;refine (Calls.ext (Ed _ _)).mono ?_;rintro e _ ⟨rfl,y,rfl⟩;go_wp2_with fail;obtain⟨W,g,hW,hg,kB,z0,z1,z2',z3,z4,c1,f1,c2,f2,c3,f3,c4,f4,c5,f5,c6,f6,c7,f7,c8,f8⟩:=xx xl xh yl yh 0 0 w y;rw [hW,hg];clear hW hg y;refine KA 17 A4 A4 ?_;simp only [Fp,List.take_zero,G0,List.drop_zero];repeat (go_big_quiet_step (first|(go_at_call 153;(first|(with_reducible exact Calls.AW (Ie (N8 _ _ _ _) BX.out))|(with_reducible exact Calls.AW (Ie (N8 _ _ _ _) BY.out))))|(go_at_call 155;exact Calls.AW (gX _ _ _))))
  refine BD ?_;rintro _ ⟨x1,rfl⟩;go_wp2_with fail;refine Af (v:=_) ?hr rfl ⟨rfl,?AA⟩;case hr=>
   simp [results,Tryz.results149,go_sem,c5,c6,z2']
  case AA=>
   exact iG
theorem apG (op xl xh yl yh:Int) (w:World) (h1:22≤op) (h2:op≤23) :
  Calls Tryz.prog 149 #[.int .u8 op,.agg #[.int .i32 xl,.int .i32 xh],.agg #[.int .i32 yl,.int .i32 yh]] w fun e w'=>e=.returned (.agg #[.int .i32 (Q8 op (xl,xh) (yl,yh)).1,.int .i32 (Q8 op (xl,xh) (yl,yh)).2])∧Below w.heap.size w w':=by
 have h:op=22∨op=23:=by omega
 rcases h with rfl|rfl
 ·exact oF 22 xl xh yl yh w _ _ _ _ _ _ (.inl ⟨rfl,rfl,rfl⟩) (A3 rfl) (A3 rfl) rfl rfl
 ·exact oF 23 xl xh yl yh w _ _ _ _ _ _ (.inr ⟨rfl,rfl,rfl⟩) (A3 rfl) (A3 rfl) rfl rfl
def zj:Go.Shelf.Ren:=⟨fun|128=>125|n=>n,fun|51=>70|3=>3|4=>4|46=>129|5=>5|9=>9|n=>n,fun|n=>n⟩
theorem aq4:Go.Proofs.Lays.n128 Tryz.prog zj:={
 mixed:=by kernel_rfl
 f128:=Tryz.func125.trans (congrArg some A4)
 t3:=Db
 a3:=YR
 z3:=Y8
 v3:=YB
 t4:=YH
 a4:=Tryz.isAgg4
 z4:=kK
 v4:=iZ
 t5:=lN
 a5:=Tryz.isAgg5
 z5:=Tryz.sizeOf5
 v5:=Tryz.zeroValue5
 t9:=XE
 a9:=Tryz.isAgg9
 z9:=Tryz.sizeOf9
 v9:=Tryz.zeroValue9
 t46:=Tryz.underlying129
 a46:=Tryz.isAgg129
 z46:=Tryz.sizeOf129
 v46:=Tryz.zeroValue129
 t51:=tE
 a51:=Tryz.isAgg70
 z51:=Tryz.sizeOf70
 v51:=Tryz.zeroValue70 }
theorem as8 (x:Int) (w:World) (h0:0≤x) (h1:x≤4294967295) :
  Calls Tryz.prog 125 #[.int .u32 x] w fun e w'=>e=.returned (.int .i64 (Lib.bitLen x.toNat))∧w'=w:=Any.bits_Len32 aq4 x w h0 h1
def Gn (n:Int):Int:=2 ^ Lib.bitLen n.toNat - 1
theorem bitLenAux_le:∀(f k x:Nat),x<2 ^ k→Lib.bitLenAux f x≤k:=by
 intro f;induction f with
 | zero=>intro k x _;simp [Lib.bitLenAux]
 | succ f ih=>
  intro k x hx;unfold Lib.bitLenAux;split
  ·omega
  ·cases k with
   | zero=>simp at hx;omega
   | succ k=>
    have:=ih k (x / 2) (by rw [Nat.pow_succ] at hx;omega);omega
theorem bitLen_le {n:Int} (h0:0≤n) (h1:n≤2147483647):Lib.bitLen n.toNat≤31:=bitLenAux_le 64 31 _ A0
theorem Yn (k m:Nat) (h:k≤m):(1:Int)≤2 ^ k∧(2:Int) ^ k≤2 ^ m:=by
 have h1:=Nat.pow_le_pow_right (n:=2) A0 h;have h2:=Nat.pow_le_pow_right (n:=2) A0 (Ca k);constructor
 ·have:((1:Nat):Int)≤((2 ^ k:Nat):Int):=by omega
  simpa using this
 ·have:((2 ^ k:Nat):Int)≤((2 ^ m:Nat):Int):=by omega
  simpa using this
theorem anE {n:Int} (h0:0≤n) (h1:n≤2147483647):0≤Gn n∧Gn n≤2147483647:=by
 have:=Yn _ 31 (bitLen_le h0 h1);unfold Gn;omega
theorem rB (n:Int) (w:World) (h0:0≤n) (h1:n≤2147483647) :
  Calls Tryz.prog 154 #[.int .i32 n] w fun e w'=>e=.returned (.int .i32 (Gn n))∧w=w':=by
 have hl:=bitLen_le h0 h1;have e0:Go.IntKind.u32.wrap n=n:=by rw [IntKind.wrap_u32];omega
 go_enter Tryz.func154,Tryz.ntmps154;go_wp2_with fail;refine (as8 _ _ A0 A0).mono ?_;rintro e w' ⟨rfl,rfl⟩;go_wp2_with fail;go_ret;refine⟨aej ?_,rfl⟩;have hp:=Yn _ 31 hl;unfold Gn;generalize (2:Int) ^ Lib.bitLen n.toNat=p at *;unfold wrap32;omega
def Jd (op:Int) (x y:Int×Int):Int×Int:=
 if op=11∧0≤x.1∧0≤y.1 then (0,min x.2 y.2) else if op=11∧0≤x.1 then (0,x.2) else if op=11∧0≤y.1 then (0,y.2)
 else if op=12∧0≤x.1∧0≤y.1 then (max x.1 y.1,Gn (max x.2 y.2)) else if op=12∧x.2<0∧y.2<0 then (max x.1 y.1,-1)
 else if op=13∧0≤x.1∧0≤y.1 then (0,Gn (max x.2 y.2)) else (-2147483648,2147483647)
theorem aae (op xl xh yl yh zl zh:Int) (w:World) (hx3 : -2147483648≤xh) (hx4:xh≤2147483647) (hy3 : -2147483648≤yh) (hy4:yh≤2147483647) (he:xl≤xh) (he':yl≤yh) (hop:(op=11∧(0≤xl)∧(0≤yl)∧zl=0∧zh=min xh yh)∨(op=11∧(0≤xl)∧(¬0≤yl)∧zl=0∧zh=xh)∨(op=11∧(¬0≤xl)∧(0≤yl)∧zl=0∧zh=yh)∨(op=11∧(¬0≤xl)∧(¬0≤yl)∧zl = -2147483648∧zh=2147483647)∨(op=12∧(¬0≤xl)∧(xh<0)∧(yh<0)∧zl=max xl yl∧zh = -1)∨(op=12∧(¬0≤xl)∧(¬xh<0)∧zl = -2147483648∧zh=2147483647)∨(op=12∧(¬0≤xl)∧(xh<0)∧(¬yh<0)∧zl = -2147483648∧zh=2147483647)∨(op=12∧(0≤xl)∧(¬0≤yl)∧(¬xh<0)∧zl = -2147483648∧zh=2147483647)∨(op=13∧(0≤xl)∧(0≤yl)∧zl=0∧zh=Gn (max xh yh))∨(op=13∧(¬0≤xl)∧zl = -2147483648∧zh=2147483647)∨(op=13∧(0≤xl)∧(¬0≤yl)∧zl = -2147483648∧zh=2147483647)∨(op=12∧(0≤xl)∧(0≤yl)∧zl=max xl yl∧zh=Gn (max xh yh))) :
  Calls Tryz.prog 147 #[.int .u8 op,.agg #[.int .i32 xl,.int .i32 xh],.agg #[.int .i32 yl,.int .i32 yh]] w fun e w'=>e=.returned (.agg #[.int .i32 zl,.int .i32 zh])∧Below w.heap.size w w':=by
 rcases hop with⟨rfl,k0,k1,rfl,rfl⟩|⟨rfl,k0,k1,rfl,rfl⟩|⟨rfl,k0,k1,rfl,rfl⟩|⟨rfl,k0,k1,rfl,rfl⟩|⟨rfl,k0,k1,k2,rfl,rfl⟩|⟨rfl,k0,k1,rfl,rfl⟩|⟨rfl,k0,k1,k2,rfl,rfl⟩|⟨rfl,k0,k1,k2,rfl,rfl⟩|⟨rfl,k0,k1,rfl,rfl⟩|⟨rfl,k0,rfl,rfl⟩|⟨rfl,k0,k1,rfl,rfl⟩|⟨rfl,k0,k1,rfl,rfl⟩;all_goals
  (first|have p0:=Ac k0|have p0:=Ad k0)
  (try (first|have p1:=Ac k1|have p1:=Ad k1));(try (first|have p2:=Ac k2|have p2:=Ad k2));go_enter Tryz.func147,Tryz.ntmps147
 iterate 11
  focus
   go_wp2_with (first|(go_at_call 133;((first|(with_reducible refine (Calls.AW (Fa _)).mono ?_)|(refine (Calls.ext (Fa _)).mono ?_));rintro e _ ⟨rfl,y,rfl⟩))|(go_at_call 154;refine (rB _ _ gZ gZ).mono ?_;rintro e _ ⟨rfl,rfl⟩))
  rotate_left 1
 focus
  go_wp2_with fail;refine KA 12 A4 A4 ?_;simp only [Fp,List.take_zero,G0,List.drop_zero];repeat (go_big_quiet_step ((go_at_call 154;exact Calls.Tu (rB _ _ gZ gZ))))
  refine BD ?_;rintro _ ⟨x1,rfl⟩;go_wp2_with fail
 all_goals
  refine Af (v:=_) ?hr rfl ⟨rfl,?AA⟩;case hr=>
   simp [results,Tryz.results147,go_sem,vg,uZ]
  case AA=>
   exact Ia
theorem atw (op xl xh yl yh:Int) (h1:11≤op) (h2:op≤13) (he:xl≤xh) (he':yl≤yh):∃zl zh,Jd op (xl,xh) (yl,yh)=(zl,zh)∧((op=11∧(0≤xl)∧(0≤yl)∧zl=0∧zh=min xh yh)∨(op=11∧(0≤xl)∧(¬0≤yl)∧zl=0∧zh=xh)∨(op=11∧(¬0≤xl)∧(0≤yl)∧zl=0∧zh=yh)∨(op=11∧(¬0≤xl)∧(¬0≤yl)∧zl = -2147483648∧zh=2147483647)∨(op=12∧(¬0≤xl)∧(xh<0)∧(yh<0)∧zl=max xl yl∧zh = -1)∨(op=12∧(¬0≤xl)∧(¬xh<0)∧zl = -2147483648∧zh=2147483647)∨(op=12∧(¬0≤xl)∧(xh<0)∧(¬yh<0)∧zl = -2147483648∧zh=2147483647)∨(op=12∧(0≤xl)∧(¬0≤yl)∧(¬xh<0)∧zl = -2147483648∧zh=2147483647)∨(op=13∧(0≤xl)∧(0≤yl)∧zl=0∧zh=Gn (max xh yh))∨(op=13∧(¬0≤xl)∧zl = -2147483648∧zh=2147483647)∨(op=13∧(0≤xl)∧(¬0≤yl)∧zl = -2147483648∧zh=2147483647)∨(op=12∧(0≤xl)∧(0≤yl)∧zl=max xl yl∧zh=Gn (max xh yh))):=by
 refine⟨(Jd op (xl,xh) (yl,yh)).1,(Jd op (xl,xh) (yl,yh)).2,rfl,?_⟩;have h:op=11∨op=12∨op=13:=by omega
 rcases h with rfl|rfl|rfl
 ·by_cases a:0≤xl<;>by_cases b:0≤yl<;>simp [Jd,a,b]
 ·by_cases a:0≤xl<;>by_cases b:0≤yl<;>by_cases c:xh<0<;>by_cases d:yh<0
  all_goals first|(exfalso;omega)|simp [Jd,a,b,c,d]
 ·by_cases a:0≤xl<;>by_cases b:0≤yl<;>simp [Jd,a,b]
theorem aqM (op xl xh yl yh:Int) (w:World) (hx3 : -2147483648≤xh) (hx4:xh≤2147483647) (hy3 : -2147483648≤yh) (hy4:yh≤2147483647) (h1:11≤op) (h2:op≤13) (he:xl≤xh) (he':yl≤yh) :
  Calls Tryz.prog 147 #[.int .u8 op,.agg #[.int .i32 xl,.int .i32 xh],.agg #[.int .i32 yl,.int .i32 yh]] w fun e w'=>e=.returned (.agg #[.int .i32 (Jd op (xl,xh) (yl,yh)).1,.int .i32 (Jd op (xl,xh) (yl,yh)).2])∧Below w.heap.size w w':=by
 obtain⟨zl,zh,e,h⟩:=atw op xl xh yl yh h1 h2 he he';rw [e];exact aae op xl xh yl yh zl zh w hx3 hx4 hy3 hy4 he he' h
def Kh (op:Int) (x y:Int×Int):Int×Int:=
 if op=14 then (if y.1=y.2 then Au [x.1*2 ^ (y.1 % 32).toNat,x.2*2 ^ (y.1 % 32).toNat] else (-2147483648,2147483647))
 else if y.1=y.2 then (x.1 / 2 ^ (y.1 % 32).toNat,x.2 / 2 ^ (y.1 % 32).toNat) else (if 0≤x.1 then 0 else x.1,if x.2<0 then -1 else x.2)
theorem Ext.merge {w0:World} (y:Ext w0) (o:Obj) (y2:Ext (y.w.alloc o)):∃y3:Ext w0,y2.w=y3.w:=
 ⟨⟨y2.w,Ext.below (MU y.h y.h.size o) (by have:=y.h.size;simp only [F9];omega) y2⟩,rfl⟩
theorem Tp (y:Int):bits .and .u32 (y % 4294967296) 31=y % 32:=by
 have h:=bits_mask .u32 32 AP (fun n h0 h1=>by rw [IntKind.wrap_u32];omega) 5 AP (y % 4294967296) A0 A0;have e:(2:Int) ^ 5 - 1=31:=by decide
 rw [e] at h;rw [h];omega
theorem uO (x y:Int) (h1 : -2147483648≤x) (h2:x≤2147483647):wrap64 (x*2 ^ (y % 32).toNat)=x*2 ^ (y % 32).toNat:=by
 have hp:=Yn (y % 32).toNat 31 A0;have e:(2:Int) ^ 31=2147483648:=by decide
 rw [e] at hp;have h3:(x*2 ^ (y % 32).toNat).natAbs≤2147483648*2147483648:=by
  rw [Int.natAbs_mul];exact Nat.mul_le_mul A0 A0
 generalize x*2 ^ (y % 32).toNat=p at *;unfold wrap64;omega
theorem yz (xl xh yl yh:Int) (w:World) (hx1 : -2147483648≤xl) (hx2:xl≤2147483647) (hx3 : -2147483648≤xh) (hx4:xh≤2147483647) (hy1 : -2147483648≤yl) (hy2:yl≤2147483647) (hs:(yl==yh)=true) :
  Calls Tryz.prog 148 #[.int .u8 14,.agg #[.int .i32 xl,.int .i32 xh],.agg #[.int .i32 yl,.int .i32 yh]] w fun e w'=>e=.returned (.agg #[.int .i32 (Au [xl*2 ^ (yl % 32).toNat,xh*2 ^ (yl % 32).toNat]).1,.int .i32 (Au [xl*2 ^ (yl % 32).toNat,xh*2 ^ (yl % 32).toNat]).2])∧Below w.heap.size w w':=by
 have e31:=Tp yl;go_enter WJ,X5;go_wp2_with (first|(go_at_call 143;((first|(with_reducible refine (Calls.AW (Dt _ _ _)).mono ?_)|(refine (Calls.ext (Dt _ _ _)).mono ?_));rintro e _ ⟨rfl,y,rfl⟩)));rw [uO xl yl hx1 hx2,uO xh yl hx3 hx4];refine (Calls.ext (Td _ 2 [xl*2 ^ (yl % 32).toNat,xh*2 ^ (yl % 32).toNat] _ AR AR AR ?_)).mono ?_
 ·intro i hi
  simp only [IQ,bk] at hi;have:i=0∨i=1:=by omega
  rcases this with rfl|rfl<;>(simp [nth,go_sem])
 rintro e _ ⟨rfl,y2,rfl⟩;obtain⟨y3,h3⟩:=Ext.merge y _ y2;rw [h3];clear h3 y2
 go_wp2
 all_goals
  refine Af (v:=.agg #[.int .i32 (Au [xl*2 ^ (yl % 32).toNat,xh*2 ^ (yl % 32).toNat]).1,.int .i32 (Au [xl*2 ^ (yl % 32).toNat,xh*2 ^ (yl % 32).toNat]).2]) ?hr rfl ⟨rfl,?AA⟩;case hr=>
   simp [results,VJ,go_sem]
  case AA=>
   exact Ia
theorem aqh (xl xh yl yh:Int) (w:World) (hx1 : -2147483648≤xl) (hx2:xl≤2147483647) (hx3 : -2147483648≤xh) (hx4:xh≤2147483647) (hy1 : -2147483648≤yl) (hy2:yl≤2147483647) (hs:(yl==yh)=false) :
  Calls Tryz.prog 148 #[.int .u8 14,.agg #[.int .i32 xl,.int .i32 xh],.agg #[.int .i32 yl,.int .i32 yh]] w fun e w'=>e=.returned (.agg #[.int .i32 (-2147483648),.int .i32 (2147483647)])∧Below w.heap.size w w':=by
 have e31:=Tp yl;go_enter WJ,X5;go_wp2_with (first|(go_at_call 143;((first|(with_reducible refine (Calls.AW (Dt _ _ _)).mono ?_)|(refine (Calls.ext (Dt _ _ _)).mono ?_));rintro e _ ⟨rfl,y,rfl⟩))|(go_at_call 133;((first|(with_reducible refine (Calls.AW (Fa _)).mono ?_)|(refine (Calls.ext (Fa _)).mono ?_));rintro e _ ⟨rfl,y,rfl⟩)));all_goals
  refine Af (v:=.agg #[.int .i32 (-2147483648),.int .i32 (2147483647)]) ?hr rfl ⟨rfl,?AA⟩;case hr=>
   simp [results,VJ,go_sem]
  case AA=>
   exact Ia
theorem amc (xl xh yl yh:Int) (w:World) (hx1 : -2147483648≤xl) (hx2:xl≤2147483647) (hx3 : -2147483648≤xh) (hx4:xh≤2147483647) (hy1 : -2147483648≤yl) (hy2:yl≤2147483647) (hs:(yl==yh)=true) :
  Calls Tryz.prog 148 #[.int .u8 15,.agg #[.int .i32 xl,.int .i32 xh],.agg #[.int .i32 yl,.int .i32 yh]] w fun e w'=>e=.returned (.agg #[.int .i32 (xl / 2 ^ (yl % 32).toNat),.int .i32 (xh / 2 ^ (yl % 32).toNat)])∧Below w.heap.size w w':=by
 have e31:=Tp yl;go_enter WJ,X5;go_wp2_with (first|(go_at_call 143;((first|(with_reducible refine (Calls.AW (Dt _ _ _)).mono ?_)|(refine (Calls.ext (Dt _ _ _)).mono ?_));rintro e _ ⟨rfl,y,rfl⟩))|(go_at_call 133;((first|(with_reducible refine (Calls.AW (Fa _)).mono ?_)|(refine (Calls.ext (Fa _)).mono ?_));rintro e _ ⟨rfl,y,rfl⟩)));all_goals
  refine Af (v:=.agg #[.int .i32 (xl / 2 ^ (yl % 32).toNat),.int .i32 (xh / 2 ^ (yl % 32).toNat)]) ?hr rfl ⟨rfl,?AA⟩;case hr=>
   simp [results,VJ,go_sem]
  case AA=>
   exact Ia
theorem wT (xl xh yl yh:Int) (w:World) (hx1 : -2147483648≤xl) (hx2:xl≤2147483647) (hx3 : -2147483648≤xh) (hx4:xh≤2147483647) (hy1 : -2147483648≤yl) (hy2:yl≤2147483647) (hs:(yl==yh)=false) (ha:0≤xl) (hb:xh<0) :
  Calls Tryz.prog 148 #[.int .u8 15,.agg #[.int .i32 xl,.int .i32 xh],.agg #[.int .i32 yl,.int .i32 yh]] w fun e w'=>e=.returned (.agg #[.int .i32 (0),.int .i32 (-1)])∧Below w.heap.size w w':=by
 have e31:=Tp yl;go_enter WJ,X5;go_wp2_with (first|(go_at_call 143;((first|(with_reducible refine (Calls.AW (Dt _ _ _)).mono ?_)|(refine (Calls.ext (Dt _ _ _)).mono ?_));rintro e _ ⟨rfl,y,rfl⟩))|(go_at_call 133;((first|(with_reducible refine (Calls.AW (Fa _)).mono ?_)|(refine (Calls.ext (Fa _)).mono ?_));rintro e _ ⟨rfl,y,rfl⟩)));all_goals
  refine Af (v:=.agg #[.int .i32 (0),.int .i32 (-1)]) ?hr rfl ⟨rfl,?AA⟩;case hr=>
   simp [results,VJ,go_sem]
  case AA=>
   exact Ia
theorem apI (xl xh yl yh:Int) (w:World) (hx1 : -2147483648≤xl) (hx2:xl≤2147483647) (hx3 : -2147483648≤xh) (hx4:xh≤2147483647) (hy1 : -2147483648≤yl) (hy2:yl≤2147483647) (hs:(yl==yh)=false) (ha:0≤xl) (hb:¬xh<0) :
  Calls Tryz.prog 148 #[.int .u8 15,.agg #[.int .i32 xl,.int .i32 xh],.agg #[.int .i32 yl,.int .i32 yh]] w fun e w'=>e=.returned (.agg #[.int .i32 (0),.int .i32 (xh)])∧Below w.heap.size w w':=by
 have e31:=Tp yl;have d2:decide (xh<0)=false:=by simp;omega
 go_enter WJ,X5;go_wp2_with (first|(go_at_call 143;((first|(with_reducible refine (Calls.AW (Dt _ _ _)).mono ?_)|(refine (Calls.ext (Dt _ _ _)).mono ?_));rintro e _ ⟨rfl,y,rfl⟩))|(go_at_call 133;((first|(with_reducible refine (Calls.AW (Fa _)).mono ?_)|(refine (Calls.ext (Fa _)).mono ?_));rintro e _ ⟨rfl,y,rfl⟩)));all_goals
  refine Af (v:=.agg #[.int .i32 (0),.int .i32 (xh)]) ?hr rfl ⟨rfl,?AA⟩;case hr=>
   simp [results,VJ,go_sem]
  case AA=>
   exact Ia
theorem afQ (xl xh yl yh:Int) (w:World) (hx1 : -2147483648≤xl) (hx2:xl≤2147483647) (hx3 : -2147483648≤xh) (hx4:xh≤2147483647) (hy1 : -2147483648≤yl) (hy2:yl≤2147483647) (hs:(yl==yh)=false) (ha:¬0≤xl) (hb:xh<0) :
  Calls Tryz.prog 148 #[.int .u8 15,.agg #[.int .i32 xl,.int .i32 xh],.agg #[.int .i32 yl,.int .i32 yh]] w fun e w'=>e=.returned (.agg #[.int .i32 (xl),.int .i32 (-1)])∧Below w.heap.size w w':=by
 have e31:=Tp yl;have d1:decide (0≤xl)=false:=by simp;omega
 go_enter WJ,X5;go_wp2_with (first|(go_at_call 143;((first|(with_reducible refine (Calls.AW (Dt _ _ _)).mono ?_)|(refine (Calls.ext (Dt _ _ _)).mono ?_));rintro e _ ⟨rfl,y,rfl⟩))|(go_at_call 133;((first|(with_reducible refine (Calls.AW (Fa _)).mono ?_)|(refine (Calls.ext (Fa _)).mono ?_));rintro e _ ⟨rfl,y,rfl⟩)));all_goals
  refine Af (v:=.agg #[.int .i32 (xl),.int .i32 (-1)]) ?hr rfl ⟨rfl,?AA⟩;case hr=>
   simp [results,VJ,go_sem]
  case AA=>
   exact Ia
theorem xK (xl xh yl yh:Int) (w:World) (hx1 : -2147483648≤xl) (hx2:xl≤2147483647) (hx3 : -2147483648≤xh) (hx4:xh≤2147483647) (hy1 : -2147483648≤yl) (hy2:yl≤2147483647) (hs:(yl==yh)=false) (ha:¬0≤xl) (hb:¬xh<0) :
  Calls Tryz.prog 148 #[.int .u8 15,.agg #[.int .i32 xl,.int .i32 xh],.agg #[.int .i32 yl,.int .i32 yh]] w fun e w'=>e=.returned (.agg #[.int .i32 (xl),.int .i32 (xh)])∧Below w.heap.size w w':=by
 have e31:=Tp yl;have d1:decide (0≤xl)=false:=by simp;omega
 have d2:decide (xh<0)=false:=by simp;omega
 go_enter WJ,X5;go_wp2_with (first|(go_at_call 143;((first|(with_reducible refine (Calls.AW (Dt _ _ _)).mono ?_)|(refine (Calls.ext (Dt _ _ _)).mono ?_));rintro e _ ⟨rfl,y,rfl⟩))|(go_at_call 133;((first|(with_reducible refine (Calls.AW (Fa _)).mono ?_)|(refine (Calls.ext (Fa _)).mono ?_));rintro e _ ⟨rfl,y,rfl⟩)));all_goals
  refine Af (v:=.agg #[.int .i32 (xl),.int .i32 (xh)]) ?hr rfl ⟨rfl,?AA⟩;case hr=>
   simp [results,VJ,go_sem]
  case AA=>
   exact Ia
theorem arA (op xl xh yl yh:Int) (w:World) (hx1 : -2147483648≤xl) (hx2:xl≤2147483647) (hx3 : -2147483648≤xh) (hx4:xh≤2147483647) (hy1 : -2147483648≤yl) (hy2:yl≤2147483647) (h1:14≤op) (h2:op≤15) :
  Calls Tryz.prog 148 #[.int .u8 op,.agg #[.int .i32 xl,.int .i32 xh],.agg #[.int .i32 yl,.int .i32 yh]] w fun e w'=>e=.returned (.agg #[.int .i32 (Kh op (xl,xh) (yl,yh)).1,.int .i32 (Kh op (xl,xh) (yl,yh)).2])∧Below w.heap.size w w':=by
 have h:op=14∨op=15:=by omega
 by_cases e:yl=yh
 ·rcases h with rfl|rfl
  ·refine (yz xl xh yl yh w hx1 hx2 hx3 hx4 hy1 hy2 (by simpa using e)).mono fun e' w' ⟨q,hb⟩=>⟨q.trans ?_,hb⟩
   simp [Kh,e]
  ·refine (amc xl xh yl yh w hx1 hx2 hx3 hx4 hy1 hy2 (by simpa using e)).mono fun e' w' ⟨q,hb⟩=>⟨q.trans ?_,hb⟩
   simp [Kh,e]
 ·have hs:(yl==yh)=false:=by simpa using e
  rcases h with rfl|rfl
  ·refine (aqh xl xh yl yh w hx1 hx2 hx3 hx4 hy1 hy2 hs).mono fun e' w' ⟨q,hb⟩=>⟨q.trans ?_,hb⟩
   simp [Kh,e]
  ·by_cases ha:0≤xl<;>by_cases hb:xh<0
   ·refine (wT xl xh yl yh w hx1 hx2 hx3 hx4 hy1 hy2 hs ha hb).mono fun e' w' ⟨q,hb⟩=>⟨q.trans ?_,hb⟩
    simp [Kh,e, *]
   ·refine (apI xl xh yl yh w hx1 hx2 hx3 hx4 hy1 hy2 hs ha hb).mono fun e' w' ⟨q,hb⟩=>⟨q.trans ?_,hb⟩
    simp [Kh,e, *]
   ·refine (afQ xl xh yl yh w hx1 hx2 hx3 hx4 hy1 hy2 hs ha hb).mono fun e' w' ⟨q,hb⟩=>⟨q.trans ?_,hb⟩
    simp [Kh,e, *]
   ·refine (xK xl xh yl yh w hx1 hx2 hx3 hx4 hy1 hy2 hs ha hb).mono fun e' w' ⟨q,hb⟩=>⟨q.trans ?_,hb⟩
    simp [Kh,e, *]
end
end Go.Proofs.YtlmgkipmfgijiaaGreatDoor
