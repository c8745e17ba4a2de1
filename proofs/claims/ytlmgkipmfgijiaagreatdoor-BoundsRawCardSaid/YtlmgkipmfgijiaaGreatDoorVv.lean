/-
  What is proved here: parts lHp.
-/
import Derived.Test.YtlmgkipmfgijiaaGreatDoorVa
import Derived.Test.YtlmgkipmfgijiaaGreatDoorVr
import Derived.Test.YtlmgkipmfgijiaaGreatDoorVb
import Derived.BigRegion
import Derived.BigQuiet
import Derived.Deep.RegionHeld3
namespace Go.Proofs.YtlmgkipmfgijiaaGreatDoor
set_option linter.unusedVariables false
set_option linter.unusedSimpArgs false
set_option maxRecDepth 100000
set_option maxHeartbeats 8000000
open Go.RowKit
section
theorem adF (b off j:Nat):(⟨b,off,none⟩:Addr).add j=⟨b,off+j,none⟩:=by cases j<;>simp [Addr.add]
theorem yX (l:List Int):∀u∈Jl l,u.oneCell'=true:=by
 intro u hu;unfold Jl at hu;obtain⟨x,_,rfl⟩:=Bx.1 hu;rfl
theorem arT {w:World} {B n size:Nat} {e:TypeId} {v:Value} {xs:List Value} (h:w.ownsRow B e size v n xs) (hx:0<n):∃g cap,v=.slice (some ⟨g,0,none⟩) n cap∧B≤g:=by
 rcases h.2 with⟨rfl,h0⟩|⟨g,cap,cur,rfl,hb,_⟩
 ·omega
 ·exact⟨g,cap,rfl,hb⟩
structure F4 (w U w':World) (gb:Nat):Prop where
 A7:Below w.heap.size w w'
 sz:U.heap.size≤w'.heap.size
 hp:∀b,b<U.heap.size→b≠gb→w'.heap[b]?=U.heap[b]?
section
variable {w U w':World} {gb:Nat}
theorem F4.cell (h:F4 w U w' gb) {b o:Nat} (h1:b<U.heap.size) (h2:b≠gb):w'.cell? ⟨b,o,none⟩=U.cell? ⟨b,o,none⟩:=Df (h.hp b h1 h2)
theorem F4.below {w'':World} (h:F4 w U w' gb) (hb:Below w'.heap.size w' w''):F4 w U w'' gb:=
 ⟨h.A7.trans (hb.mono h.A7.size),EM h.sz hb.size,fun b h1 h2=>(hb.block b YL).trans (h.hp b h1 h2)⟩
theorem F4.drew (h:F4 w U w' gb):F4 w U w'.drew gb:=⟨h.A7.drew,h.sz,h.hp⟩
theorem F4.start (h:Below w.heap.size w U):F4 w U U gb:=⟨h,AH _,fun _ _ _=>rfl⟩
theorem F4.trans {V:World} (h:F4 w U w' gb) (h2:F4 w w' V gb):F4 w U V gb:=⟨h2.A7,EM h.sz h2.sz,fun b h3 h4=>(h2.hp b YL h4).trans (h.hp b h3 h4)⟩
theorem F4.set (h:F4 w U w' gb) (hg:w.heap.size≤gb) (j:Nat) (v:Value):F4 w U (w'.setCell ⟨gb,j,none⟩ v) gb:=
 ⟨h.A7.setCell (p:=⟨gb,j,none⟩) hg v,by rw [gw];exact h.sz,fun b h1 h2=>(BL _ _ _ _ (by show b≠gb;exact h2)).trans (h.hp b h1 h2)⟩
theorem F4.box (h:F4 w U w' gb) {q:Nat} (hq:U.heap.size≤q) (hw:w.heap.size≤q) (j:Nat) (v:Value):F4 w U (w'.setCell ⟨q,j,none⟩ v) gb:=
 ⟨h.A7.setCell (p:=⟨q,j,none⟩) hw v,by rw [gw];exact h.sz,fun b h1 h2=>(BL _ _ _ _ (by show b≠q;omega)).trans (h.hp b h1 h2)⟩
end
theorem abj (w:World):Calls Tryz.prog 13 #[.agg #[.slice none 0 0,.slice none 0 0]] w fun e w'=>e=.returned (.tuple #[.slice none 0 0,.int .i64 (-1),.int .i64 3])∧Below w.heap.size w w':=by
 obtain⟨V,hV⟩:=AA (w.alloc (.cells #[.slice none 0 0,.slice none 0 0] 31));have bV:Below w.heap.size w V:=hV▸(AP _ _).alloc (AH _) _;have kV:V.heap[w.heap.size]?=some (.cells #[.slice none 0 0,.slice none 0 0] 31 (0,0)):=hV▸Ai _ _;have c0:V.cell? ⟨w.heap.size,0,none⟩=some (.slice none 0 0):=by simp [World.cell?,kV]
 have c1:V.cell? ⟨w.heap.size,1,none⟩=some (.slice none 0 0):=by simp [World.cell?,kV]
 have lV:=BR kV;have DN:=A3 (show Calls Tryz.prog 35 #[.agg #[.slice none 0 0,.slice none 0 0]] V fun e w'=>e=.returned (.bool false)∧Below V.heap.size V w' from
  (Yd (.slice none 0 0) (.slice none 0 0) [] [] V ⟨none,0,rfl,AH _,by unfold maxLen;omega,fun h=>by simp at h⟩ ⟨none,0,rfl,AH _,by unfold maxLen;omega,fun h=>by simp at h⟩ AO AO).mono fun e w' ⟨⟨r,h1,h2⟩,h3⟩=>by
   have hr:r=false:=by
    cases r with
    | false=>rfl
    | true=>exact (h2.1 rfl).nil.elim
   rw [hr] at h1
   exact⟨h1,h3⟩)
 have BV:=A3 bV;clear bV kV;go_enter Tryz.func13,Tryz.ntmps13;go_wp2_with (go_at_call 35;refine DN.out.mono ?_;rintro e W1 ⟨rfl,hb1⟩);go_ret3;exact⟨by first|rfl|assumption,BV.out.trans (hb1.mono BV.out.size)⟩
theorem F4.grown {w U w' w'':World} {gb:Nat} {row:Option Nat} (h:F4 w U w' gb) (G:w'.grownBy w'' row) (hr:∀q,row=some q→U.heap.size≤q) (hw:w.heap.size≤U.heap.size):F4 w U w'' gb:=
 ⟨h.A7.grown G h.A7.size (fun q hq=>EM hw (hr q hq)),EM h.sz G.size,fun b h1 h2=>(G.block b YL (fun e=>by have:=hr b e.symm;omega)).trans (h.hp b h1 h2)⟩
end
end Go.Proofs.YtlmgkipmfgijiaaGreatDoor
