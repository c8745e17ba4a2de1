/-
  What is proved here: abbreviations: proofs that come often, as auto-parameters; short names of lemmas.
-/
import Derived.WalkKit
import Derived.WalkSpells
import Derived.WalkLawsBesides
import Derived.Deep.QuietTactic
import Derived.BigQuiet
import Derived.Lib.Hide
import Derived.StillTail
import Derived.Deep.RegionHeld3
import Derived.Deep.RegionLaw
import Derived.Maps.AppendAt
import Derived.WideKeyEntry
import Derived.Maps.RangeRun
import Derived.Maps.Keyed
import Derived.Carry
import Derived.ProofKit
import Derived.OpenShut
import Derived.Below
import Derived.Lib.SmallJoins
import Derived.Deep.Slices
import Derived.Deep.MidRow
import Derived.Lib.Bytealg
import Derived.Lib.Strings
import Derived.MapViews
import Derived.Laws.OwnMore
import Derived.WalkSmall
import Derived.Deep.CutBlock
import Derived.Deep.DeepCutAuto
import Derived.IntWalk
import Derived.Laws.MakeOwn
import Derived.RangeFuncBox
import Derived.OneCell
import Derived.ChangeSame
import Derived.ChangeVars
import Derived.JoinedOf
import Derived.RowKit
import Derived.Deep.Strs
import Derived.Laws.EntriesVeiled
import Derived.Shelf.SlIterI.Nil
import Derived.Shelf.SlIterI.Sorted
import Derived.Shelf.SortM.Plain
import Derived.Shelf.SortM.SortNone
import Derived.Ground.GgzProg
import Derived.Ground.SlgmProg
import Derived.Shelf.Small.Bits
import Derived.Handy
import Derived.Deep.RegionWith
import Derived.Laws.CopyOwn
import Derived.Deep.WholeRow
import Derived.BigRegion
import Derived.Deep.Upon
import Derived.Test.YtlmgkipmfgijiaaGreatDoorProg
namespace Go.Proofs.YtlmgkipmfgijiaaGreatDoor
set_option linter.unusedVariables false
set_option linter.unusedSimpArgs false
set_option maxRecDepth 100000
set_option maxHeartbeats 8000000
set_option linter.defProp false
open Go.RowKit
theorem A0 {P:Prop} (h:P:=by omega):P:=h
theorem A4 {P:Prop} (h:P:=by kernel_rfl):P:=h
theorem AP {P:Prop} (h:P:=by decide):P:=h
theorem Bd {P:Prop} (h:P:=by simp [Value.oneCell']):P:=h
theorem AR {P:Prop} (h:P:=by simp):P:=h
theorem CJ {P:Prop} (h:P:=by unfold maxLen;omega):P:=h
theorem CD {P:Prop} (h:P:=by simp;omega):P:=h
theorem I7 {P:Prop} (h:P:=by rw [World.size_alloc];omega):P:=h
theorem Wx {P:Prop} (h:P:=by first|assumption|exact Below.refl _ _|exact Below.drew (Below.refl _ _)|exact Ext.h _):P:=h
theorem Ua {P:Prop} (h:P:=by simp only [Int.toNat_natCast];rintro⟨q1,q2⟩;rw [DZ,hat] at q1;omega):P:=h
theorem UX {P:Prop} (h:P:=by simp only [Int.toNat_natCast];rintro⟨q1,q2⟩;rw [DX,hat] at q2;omega):P:=h
theorem GD {P:Prop} (h:P:=by simp only;omega):P:=h
theorem JU {P:Prop} (h:P:=by first|rfl|kernel_rfl):P:=h
theorem Ga {P:Prop} (h:P:=by simp [go_sem, *]):P:=h
theorem MN {P:Prop} (h:P:=by rw [HN.out];exact htn):P:=h
theorem JP {P:Prop} (h:P:=by simp<;>omega):P:=h
theorem Yd {P:Prop} (h:P:=by show w.heap.size+1+1≠w.heap.size+1;omega):P:=h
theorem cM {P:Prop} (h:P:=by first|exact Nat.le_refl _|(simp;done)|(simp;omega)):P:=h
theorem j5 {P:Prop} (h:P:=by first|assumption|exact Below.refl _ _|exact Below.drew (Below.refl _ _)):P:=h
theorem Xt {P:Prop} (h:P:=by first|exact k1|(rw [auJ] at k1;exact k1)):P:=h
theorem YE {P:Prop} (h:P:=by show w.heap.size≤w.heap.size+1;omega):P:=h
theorem P7 {P:Prop} (h:P:=by rw [←e];exact hk):P:=h
theorem Uj {P:Prop} (h:P:=by first|exact BX.out|exact BQ.out):P:=h
theorem Si {P:Prop} (h:P:=by rw [DU.out];exact hn):P:=h
theorem YC {P:Prop} (h:P:=by simp only [World.size_alloc];omega):P:=h
theorem ji {P:Prop} (h:P:=by first|exact hq▸BX.out.size|exact BX.out.size|omega):P:=h
theorem Nv {P:Prop} (h:P:=by simpa using h):P:=h
theorem bL {P:Prop} (h:P:=by simp [results,Tryz.results12,go_sem, *]):P:=h
theorem iM {P:Prop} (h:P:=by first|assumption|exact Below.drew (Below.refl _ _)):P:=h
theorem NF {P:Prop} (h:P:=by rw [e];rfl):P:=h
theorem Mz {P:Prop} (h:P:=by assumption):P:=h
theorem Xb {P:Prop} (h:P:=by simp only [World.size_alloc]):P:=h
theorem Tb {P:Prop} (h:P:=by rw [DU.out];omega):P:=h
theorem XZ {P:Prop} (h:P:=by simp [Act.eval,Act.put]):P:=h
theorem aec {P:Prop} (h:P:=by show X.heap.size≤(World.alloc _ _).heap.size;rw [World.size_alloc];have:=UB.out;show X.heap.size≤U.heap.size+1;omega):P:=h
theorem jI {P:Prop} (h:P:=by simp [results,Tryz.results22,go_sem, *]):P:=h
theorem YX {P:Prop} (h:P:=by unfold Cg;simp;omega):P:=h
theorem Xk {P:Prop} (h:P:=by rw [HM.out];exact hlt):P:=h
theorem au {P:Prop} (h:P:=by simp [Value.ownBlock];omega):P:=h
theorem Y5 {P:Prop} (h:P:=by have:=SV.out;omega):P:=h
theorem Z4 {P:Prop} (h:P:=by have:=S1.out;omega):P:=h
theorem XO {P:Prop} (h:P:=by have:=S0.out;omega):P:=h
theorem Z6 {P:Prop} (h:P:=by first|rfl|trivial):P:=h
theorem ZL {P:Prop} (h:P:=by have:=h.sz;omega):P:=h
theorem api {P:Prop} (h:P:=by symm;simp;intro h;subst h;have h1:=WN.out;rw [Pc.out] at h1;exact HQ.out (Option.some.inj h1).symm):P:=h
theorem qL {P:Prop} (h:P:=by have:=HA.out.lt;have:=L5.out;unfold Ol;omega):P:=h
theorem dP {P:Prop} (h:P:=by rw [hl] at h0;exact h0):P:=h
theorem WV {P:Prop} (h:P:=by simpa using hi):P:=h
theorem Zl {P:Prop} (h:P:=by rw [hr.len];exact ha):P:=h
theorem pU {P:Prop} (h:P:=by first|omega|(simp;done)|(simp;omega)):P:=h
theorem fZ {P:Prop} (h:P:=by rw [List.length_take];omega):P:=h
theorem Xc {P:Prop} (h:P:=by rw [hs2];omega):P:=h
theorem dX {P:Prop} (h:P:=by have:=h.lt;omega):P:=h
theorem Xa {P:Prop} (h:P:=by rw [FN];omega):P:=h
theorem Zb {P:Prop} (h:P:=by rw [hr.len];omega):P:=h
theorem fP {P:Prop} (h:P:=by rw [h] at hr;cases hr):P:=h
theorem fY {P:Prop} (h:P:=by rw [GY.out];exact Ff):P:=h
theorem iX {P:Prop} (h:P:=by have:=HM.out;omega):P:=h
theorem gZ {P:Prop} (h:P:=by (try split)<;>omega):P:=h
theorem dS {P:Prop} (h:P:=by simpa using hl):P:=h
theorem bg {P:Prop} (h:P:=by simpa using e'):P:=h
theorem CH {P:Prop} (h:P:=by (repeat (first|exact Below.refl _ _|refine Below.setCell ?_ ?_ _|refine Ext.below ?_ ?_ _|refine Below.alloc ?_ ?_ _))<;>(first|(simp;done)|(simp;omega)|omega)):P:=h
theorem Ia {P:Prop} (h:P:=by (repeat (first|exact Below.refl _ _|refine Below.setCell ?_ ?_ _|refine Ext.below ?_ ?_ _|refine Below.alloc ?_ ?_ _))<;>(first|(simp;done)|(simp;omega)|omega|(simp only [World.size_setCell,World.size_alloc];refine Nat.le_trans ?_ (Below.size (Ext.h _));simp only [World.size_setCell,World.size_alloc];omega))):P:=h
theorem iG {P:Prop} (h:P:=by (repeat (first|assumption|refine Below.setCell ?_ ?_ _|refine Ext.below ?_ ?_ _|refine Below.alloc ?_ ?_ _))<;>(first|(simp;done)|(simp;omega)|omega)):P:=h
theorem A3 {p:Prop} (h:p):Hid p:=Lib.hid h
theorem Az {α:Type _} {xs:List α} {i:Nat} (h:i<xs.toArray.size):xs.toArray[i]=xs[i]'(by simpa using h):=rfl
theorem B9 {α:Type _} {a:α} {ys:List α} (h:0<(a :: ys).length):(a :: ys)[0]=a:=rfl
theorem BB {α:Type _} {a:α} {ys:List α} {i:Nat} (h:i+1<(a :: ys).length):(a :: ys)[i+1]=ys[i]'(by simpa using h):=rfl
theorem Ax {α:Type _} (l:List α) (i:Nat) (a:α):l.toArray.setIfInBounds i a=(l.set i a).toArray:=List.setIfInBounds_toArray ..
theorem B8 {α:Type _} (x:α) (xs:List α) (a:α):(x :: xs).set 0 a=a :: xs:=rfl
theorem Aw {α:Type _} (x:α) (xs:List α) (i:Nat) (a:α):(x :: xs).set (i+1) a=x :: xs.set i a:=rfl
theorem Fp {α:Type _} (a:α) (ys:List α) (i:Nat):(a :: ys).take (i+1)=a :: ys.take i:=rfl
theorem G0 {α:Type _} (a:α) (ys:List α) (i:Nat):(a :: ys).drop (i+1)=ys.drop i:=rfl
abbrev BL:List Value:=[.int .i32 0,.int .i32 0,.int .i32 0,.int .i32 0,.int .i32 0,.int .i32 0,.int .i32 0,.int .i32 0,.int .i32 0,.int .i32 0,.int .i32 0,.int .i32 0,.int .i32 0,.int .i32 0,.int .i32 0,.int .i32 0,.int .i32 0,.int .i32 0,.int .i32 0,.int .i32 0,.int .i32 0,.int .i32 0,.int .i32 0,.int .i32 0,.int .i32 0,.int .i32 0,.int .i32 0,.int .i32 0,.int .i32 0,.int .i32 0,.int .i32 0,.int .i32 0]
def yA:=@List.findIdx?_eq_some_iff_getElem
def asf:=@List.take_succ_eq_append_getElem
def wu:=@Int.mul_le_mul_of_nonneg_right
def jt:=@Int.mul_le_mul_of_nonpos_left
def tW:=@Int.mul_le_mul_of_nonneg_left
def Bl:=@Array.getElem?_eq_some_iff
def Jg:=@List.getElem?_append_right
def Bc:=@List.getElem?_eq_some_iff
def Sw:=@Classical.byContradiction
def ZX:=@List.drop_eq_getElem_cons
def Kr:=@List.getElem?_append_left
def QS:=@List.pairwise_iff_getElem
def VQ:=@List.mem_or_eq_of_mem_set
def Ab:=@List.getElem?_eq_getElem
def iQ:=@List.length_eq_zero_iff
def j8:=@List.getElem?_replicate
def K8:=@List.take_of_length_le
def Oe:=@World.frozen?_of_block
def gl:=@MapKept.run_getObj_map
def mW:=@Array.getElem?_eq_none
def YM:=@Option.map_eq_some_iff
def Dy:=@List.getElem?_eq_none
def Ul:=@List.take_append_drop
def ko:=@List.length_filter_le
def LH:=@List.mem_iff_getElem?
def PW:=@ownsRow_setCell_other
def gj:=@Array.getElem?_modify
def pP:=@List.mem_append_right
def oG:=@List.getElem?_zipWith
def nE:=@List.set_append_right
def YF:=@List.getElem?_toArray
def vT:=@ownsRow_setCell_below
def Bj:=@List.mem_of_getElem?
def dR:=@Bool.or_eq_false_iff
def Fu:=@List.mem_cons_of_mem
def N3:=@World.cell?_of_block
def Lx:=@wpList_append_own_at
def r7:=@List.pairwise_append
def aW:=@Go.IntWalk.wrap64_in
def Qs:=@toList_madeCells_one
def rK:=@List.mem_of_mem_take
def gW:=@getD_replicate_false
def Rl:=@List.mem_append_left
def Xi:=@List.getElem?_set_ne
def Gk:=@List.length_pos_iff
def Qu:=@List.flatMap_append
def FI:=@List.getElem?_range
def SI:=@List.map_congr_left
def PN:=@Int.toNat_of_nonneg
def Rk:=@List.getElem_of_mem
def oW:=@World.ownsRow.alloc
def qw:=@all_oneCell_toArray
def qB:=@List.length_zipWith
def Me:=@beq_eq_false_iff_ne
def r8:=@wp_region_held_drew
def nP:=@List.length_reverse
def YW:=@List.mem_replicate
def F7:=@Nat.lt_of_lt_of_le
def Lf:=@List.mem_cons_self
def NJ:=@Bool.false_eq_true
def UC:=@Nat.eq_zero_or_pos
def Bb:=@Below.heap_setCell
def G5:=@List.length_append
def Zz:=@List.filter_append
def Ug:=@List.getElem_range
def gv:=@List.countP_append
def jZ:=@Tryz.underlying107
def jH:=@List.getElem?_drop
def mm:=@List.mem_singleton
def XP:=@List.getElem?_take
def pK:=@Tryz.underlying113
def FB:=@Tryz.underlying220
def om:=@World.ownsRow.drew
def BI:=@Tryz.underlying174
def kf:=@Nat.lt_of_le_of_lt
def eZ:=@World.size_setCell
def Gv:=@List.getElem?_set
def JR:=@List.ext_getElem?
def MG:=@Option.some.injEq
def JJ:=@Tryz.underlying38
def Cu:=@Int.toNat_natCast
def E4:=@decide_eq_true_eq
def I6:=@List.take_add_one
def Qw:=@List.foldl_append
def WO:=@Tryz.underlying96
def N4:=@Tryz.underlying99
def gm:=@List.length_range
def D8:=@List.getElem?_map
def NK:=@World.ownsRow_nil
def Jy:=@List.flatMap_cons
def Cl:=@heap_setCell_same
def Yl:=@wp_region_noPanic
def Zt:=@Go.Maps.int_keyed
def cO:=@Result.andThen_ok
def JB:=@of_decide_eq_true
def nM:=@Tryz.zeroValue113
def tE:=@Tryz.underlying70
def ku:=@List.pairwise_map
def YD:=@Tryz.underlying55
def Ig:=@List.size_toArray
def FH:=@wpList_append_own
def jx:=@List.flatten_cons
def rL:=@List.all_eq_false
def ZQ:=@List.append_assoc
def Uh:=@List.nodup_append
def Ze:=@Bool.eq_false_iff
def Xl:=@Tryz.underlying79
def pM:=@Tryz.underlying31
def gh:=@Tryz.underlying59
def bM:=@Tryz.underlying88
def jl:=@DataW.trod_string
def nH:=@Tryz.underlying57
def CQ:=@List.getElem_mem
def kF:=@Nat.le_of_not_lt
def F9:=@World.size_alloc
def Bk:=@wpList_store_row
def Eh:=@Bool.and_eq_true
def Db:=@Tryz.underlying3
def IQ:=@List.length_cons
def Gx:=@List.take_length
def tX:=@List.any_eq_true
def nw:=@Option.getD_some
def eB:=@List.flatMap_nil
def KC:=@List.ext_getElem
def U8:=@List.getElem_set
def UE:=@List.getElem_map
def TB:=@List.mem_flatMap
def Mm:=@List.all_eq_true
def Ux:=@List.length_take
def eT:=@Tryz.underlying0
def YH:=@Tryz.underlying4
def oD:=@Tryz.zeroValue38
def lN:=@Tryz.underlying5
def XE:=@Tryz.underlying9
def Tq:=@List.countP_cons
def WS:=@List.not_mem_nil
def dU:=@List.cons_append
def dF:=@List.filter_cons
def pZ:=@IntKind.wrap_i32
def cT:=@List.nil_append
def FZ:=@Option.some.inj
def Ad:=@decide_eq_false
def Ch:=@List.mem_append
def LP:=@List.foldl_cons
def JT:=@List.range_succ
def LB:=@List.length_set
def FQ:=@List.length_map
def Qh:=@List.map_append
def bk:=@List.length_nil
def YS:=@Option.map_some
def Jz:=@List.append_nil
def Yu:=@Bool.or_eq_true
def aP:=@run_loadVar_mid
def Mj:=@List.mem_filter
def jF:=@Tryz.zeroValue0
def iZ:=@Tryz.zeroValue4
def YB:=@Tryz.zeroValue3
def l8:=@Tryz.results155
def jE:=@Tryz.results105
def VO:=@Tryz.results106
def Mk:=@Tryz.results134
def Le:=@Tryz.results131
def cF:=@trodAll_cons_mk
def aU:=@Tryz.results107
def Y0:=@List.cons.injEq
def eR:=@Tryz.results135
def DR:=@wpList_load_mid
def Qj:=@Bool.eq_iff_iff
def Xu:=@Int.tmod_nonneg
def VJ:=@Tryz.results148
def av:=@Tryz.results145
def TR:=@Tryz.results108
def Ac:=@decide_eq_true
def AY:=@heap_alloc_new
def Dn:=@IntWalk.i64_in
def Bv:=@heap_alloc_old
def Gp:=@List.mem_range
def QB:=@run_underlying
def Qy:=@DataW.trod_int
def jP:=@List.mapM_cons
def GU:=@wp_loop_rounds
def ZM:=@NoPanic.normal
def QK:=@AllReadyH.cons
def Zy:=@Tryz.results27
def Mi:=@Tryz.results88
def Da:=@List.mem_cons
def Qb:=@run_make_full
def CY:=@Below.setCell
def YT:=@Nat.add_assoc
def gM:=@Tryz.ntmps155
def jC:=@Tryz.ntmps105
def Wm:=@Tryz.ntmps106
def N1:=@Tryz.ntmps134
def LD:=@Tryz.ntmps131
def aI:=@DataW.trod_lt
def cX:=@Prod.mk.injEq
def XX:=@List.map_cons
def bK:=@List.sum_cons
def jQ:=@Tryz.ntmps135
def S4:=@AllReadyH.nil
def X5:=@Tryz.ntmps148
def Zm:=@Tryz.ntmps145
def Yc:=@Tryz.ntmps108
def Ph:=@Int.le_trans
def C5:=@List.mem_map
def aL:=@Tryz.ntmps33
def FK:=@Nat.le_trans
def Du:=@cell_one_new
def di:=@Tryz.ntmps30
def Er:=@Nat.zero_add
def jh:=@forall_const
def Xx:=@List.map_nil
def Mp:=@ownsRow_succ
def Af:=@bodyPost_ret
def KP:=@Nat.lt_or_ge
def TT:=@Nat.add_comm
def Fe:=@Tryz.ntmps95
def QH:=@Sem.run_bind
def eX:=@Sem.run_pure
def Tv:=@List.map_set
def Zu:=@results_none
def gu:=@Tryz.sizeOf0
def kK:=@Tryz.sizeOf4
def Y8:=@Tryz.sizeOf3
def ZE:=@callsIn_wide
def gG:=@Tryz.func155
def iO:=@Tryz.func105
def Vi:=@Tryz.func106
def NZ:=@Tryz.func134
def LI:=@Tryz.func131
def Zg:=@Nat.add_zero
def Bu:=@below_setRow
def jo:=@Tryz.func135
def Rh:=@setRow_other
def RD:=@wpAnyH_ready
def Tl:=@Nat.zero_mul
def dI:=@Tryz.ntmps88
def Zk:=@Tryz.ntmps92
def Yx:=@Tryz.ntmps94
def WJ:=@Tryz.func148
def Zi:=@Tryz.func145
def XN:=@Tryz.func108
def EJ:=@Int.le_refl
def Ca:=@Nat.zero_le
def AH:=@Nat.le_refl
def af:=@Tryz.func33
def ZT:=@Tryz.func30
def BD:=@wpQuiet_nil
def N6:=@Nat.mul_one
def U4:=@getD_set_ne
def Fj:=@Tryz.func95
def YR:=@Tryz.isAgg3
def MU:=@Below.alloc
def BS:=@rounds_succ
def Bf:=@wpAnyH_take
def J9:=@cell_of_row
def Fg:=@setRow_heap
def Zp:=@Tryz.func88
def ZU:=@Tryz.func92
def Yv:=@Tryz.func94
def AV:=@Below.refl
def Dp:=@info_parts
def dW:=@Nat.mod_lt
def YL:=@ready_mono
def Dl:=@Below.drew
def dD:=@Below.trod
def Vu:=@beq_iff_eq
def Y9:=@Below.size
def Eg:=@And.intro
def Te:=@mem_ready
def Sy:=@run_make
def Lc:=@if_false
def SL:=@or_false
def Wu:=@Prod.ext
def ED:=@Ne.symm
def QW:=@if_true
def A9:=@if_pos
def A6:=@if_neg
def Jl:=@Or.inr
def CZ:=@Or.inl
theorem A8 {α:Sort _} (t:α):∃x,t=x:=⟨t,rfl⟩
theorem Ai {P:Prop} (h:P:=by simp [intOf];omega):P:=h
theorem AQ {p0 p1:Prop} (h0:p0) (h1:p1):Hid p0∧Hid p1:=⟨Lib.hid h0,Lib.hid h1⟩
theorem Bh {p0 p1 p2:Prop} (h0:p0) (h1:p1) (h2:p2):Hid p0∧Hid p1∧Hid p2:=⟨Lib.hid h0,Lib.hid h1,Lib.hid h2⟩
theorem CU {p0 p1 p2 p3:Prop} (h0:p0) (h1:p1) (h2:p2) (h3:p3):Hid p0∧Hid p1∧Hid p2∧Hid p3:=⟨Lib.hid h0,Lib.hid h1,Lib.hid h2,Lib.hid h3⟩
theorem FP {p0 p1 p2 p3 p4:Prop} (h0:p0) (h1:p1) (h2:p2) (h3:p3) (h4:p4):Hid p0∧Hid p1∧Hid p2∧Hid p3∧Hid p4:=⟨Lib.hid h0,Lib.hid h1,Lib.hid h2,Lib.hid h3,Lib.hid h4⟩
theorem Lt {p0 p1 p2 p3 p4 p5:Prop} (h0:p0) (h1:p1) (h2:p2) (h3:p3) (h4:p4) (h5:p5):Hid p0∧Hid p1∧Hid p2∧Hid p3∧Hid p4∧Hid p5:=⟨Lib.hid h0,Lib.hid h1,Lib.hid h2,Lib.hid h3,Lib.hid h4,Lib.hid h5⟩
theorem auy {p0 p1 p2 p3 p4 p5 p6:Prop} (h0:p0) (h1:p1) (h2:p2) (h3:p3) (h4:p4) (h5:p5) (h6:p6):Hid p0∧Hid p1∧Hid p2∧Hid p3∧Hid p4∧Hid p5∧Hid p6:=⟨Lib.hid h0,Lib.hid h1,Lib.hid h2,Lib.hid h3,Lib.hid h4,Lib.hid h5,Lib.hid h6⟩
theorem OI {p0 p1 p2 p3 p4 p5 p6 p7:Prop} (h0:p0) (h1:p1) (h2:p2) (h3:p3) (h4:p4) (h5:p5) (h6:p6) (h7:p7):Hid p0∧Hid p1∧Hid p2∧Hid p3∧Hid p4∧Hid p5∧Hid p6∧Hid p7:=⟨Lib.hid h0,Lib.hid h1,Lib.hid h2,Lib.hid h3,Lib.hid h4,Lib.hid h5,Lib.hid h6,Lib.hid h7⟩
end Go.Proofs.YtlmgkipmfgijiaaGreatDoor
