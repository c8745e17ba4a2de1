/-
  What is proved here: abbreviations: proofs that come often, as auto-parameters; short names of lemmas.
-/
import Derived.WalkKit
import Derived.WalkSpells
import Derived.WalkLawsBesides
import Derived.Deep.QuietTactic
import Derived.BigQuiet
import Derived.Lib.Hide
import Derived.StillTail
import Derived.Deep.RegionHeld3
import Derived.Deep.RegionLaw
import Derived.Maps.AppendAt
import Derived.WideKeyEntry
import Derived.Maps.RangeRun
import Derived.Maps.Keyed
import Derived.Carry
import Derived.ProofKit
import Derived.OpenShut
import Derived.Below
import Derived.Lib.SmallJoins
import Derived.Deep.Slices
import Derived.Deep.MidRow
import Derived.Lib.Bytealg
import Derived.Lib.Strings
import Derived.MapViews
import Derived.Laws.OwnMore
import Derived.WalkSmall
import Derived.Deep.CutBlock
import Derived.Deep.DeepCutAuto
import Derived.IntWalk
import Derived.Laws.MakeOwn
import Derived.RangeFuncBox
import Derived.OneCell
import Derived.ChangeSame
import Derived.ChangeVars
import Derived.JoinedOf
import Derived.RowKit
import Derived.Deep.Strs
import Derived.Laws.EntriesVeiled
import Derived.Shelf.SlIterI.Nil
import Derived.Shelf.SlIterI.Sorted
import Derived.Shelf.SortM.Plain
import Derived.Shelf.SortM.SortNone
import Derived.Ground.GgzProg
import Derived.Ground.SlgmProg
import Derived.Laws.AppendOwnNone
import Derived.Shelf.Small.Bits
import Derived.Deep.WholeRow
import Derived.Laws.CopyOwn
import Derived.BigRegion
import Derived.Deep.Upon
import Derived.Test.YtlmgkipmfgijiaaGreatDoorProg
namespace Go.Proofs.YtlmgkipmfgijiaaGreatDoor
set_option linter.unusedVariables false
set_option linter.unusedSimpArgs false
set_option maxRecDepth 100000
set_option maxHeartbeats 8000000
set_option linter.defProp false
open Go.RowKit
theorem A0 {P:Prop} (h:P:=by omega):P:=h
theorem A6 {P:Prop} (h:P:=by kernel_rfl):P:=h
theorem AK {P:Prop} (h:P:=by decide):P:=h
theorem BS {P:Prop} (h:P:=by simp [Value.oneCell']):P:=h
theorem Bc {P:Prop} (h:P:=by unfold maxLen;omega):P:=h
theorem AO {P:Prop} (h:P:=by simp):P:=h
theorem F8 {P:Prop} (h:P:=by simp [Act.eval,Act.put]):P:=h
theorem Hz {P:Prop} (h:P:=by rw [World.size_alloc];omega):P:=h
theorem Cl {P:Prop} (h:P:=by simp;omega):P:=h
theorem TJ {P:Prop} (h:P:=by simp only [Int.toNat_natCast];rintro⟨q1,q2⟩;rw [Cy,hat] at q1;omega):P:=h
theorem TK {P:Prop} (h:P:=by simp only [Int.toNat_natCast];rintro⟨q1,q2⟩;rw [Cx,hat] at q2;omega):P:=h
theorem JT {P:Prop} (h:P:=by first|rfl|kernel_rfl):P:=h
theorem GK {P:Prop} (h:P:=by simp [go_sem, *]):P:=h
theorem Ku {P:Prop} (h:P:=by decide +kernel):P:=h
theorem Li {P:Prop} (h:P:=by rw [HN.out];exact htn):P:=h
theorem KN {P:Prop} (h:P:=by rw [Cj.out];omega):P:=h
theorem Lz {P:Prop} (h:P:=by first|rfl|trivial):P:=h
theorem S9 {P:Prop} (h:P:=by first|(simp;done)|(simp;omega)):P:=h
theorem J3 {P:Prop} (h:P:=by simp<;>omega):P:=h
theorem XE {P:Prop} (h:P:=by show w.heap.size+1+1≠w.heap.size+1;omega):P:=h
theorem eD {P:Prop} (h:P:=by first|exact Nat.le_refl _|(simp;done)|(simp;omega)):P:=h
theorem YK {P:Prop} (h:P:=by show w.heap.size≤w.heap.size+1;omega):P:=h
theorem UT {P:Prop} (h:P:=by first|exact BX.out|exact BQ.out):P:=h
theorem Rc {P:Prop} (h:P:=by rw [Cj.out];exact hn):P:=h
theorem Z9 {P:Prop} (h:P:=by simp only [World.size_alloc];omega):P:=h
theorem kS {P:Prop} (h:P:=by first|exact hq▸BX.out.size|exact BX.out.size|omega):P:=h
theorem bS {P:Prop} (h:P:=by show w.heap.size≠w.heap.size+1;omega):P:=h
theorem NM {P:Prop} (h:P:=by simpa using h):P:=h
theorem fR {P:Prop} (h:P:=by simp [results,Tryz.results12,go_sem, *]):P:=h
theorem Mj {P:Prop} (h:P:=by rw [e];rfl):P:=h
theorem ZB {P:Prop} (h:P:=by simp only [World.size_alloc]):P:=h
theorem VG {P:Prop} (h:P:=by rw [HM.out];exact hlt):P:=h
theorem fZ {P:Prop} (h:P:=by rw [HM.out];exact Nat.le_refl _):P:=h
theorem abp {P:Prop} (h:P:=by show X.heap.size≤(World.alloc _ _).heap.size;rw [World.size_alloc];have:=Tz.out;show X.heap.size≤U.heap.size+1;omega):P:=h
theorem mY {P:Prop} (h:P:=by simp [results,Tryz.results49,go_sem, *]):P:=h
theorem jD {P:Prop} (h:P:=by simp [results,Tryz.results22,go_sem, *]):P:=h
theorem YB {P:Prop} (h:P:=by rw [h] at hr;cases hr):P:=h
theorem fl {P:Prop} (h:P:=by simp [Value.ownBlock];omega):P:=h
theorem YS {P:Prop} (h:P:=by have:=SV.out;omega):P:=h
theorem YF {P:Prop} (h:P:=by have:=S1.out;omega):P:=h
theorem XP {P:Prop} (h:P:=by have:=S0.out;omega):P:=h
theorem Uo {P:Prop} (h:P:=by simp only;omega):P:=h
theorem YL {P:Prop} (h:P:=by have:=h.sz;omega):P:=h
theorem apG {P:Prop} (h:P:=by symm;simp;intro h;subst h;have h1:=Ui.out;rw [IK.out] at h1;exact HQ.out (Option.some.inj h1).symm):P:=h
theorem rR {P:Prop} (h:P:=by have:=HA.out.lt;have:=L5.out;unfold OZ;omega):P:=h
theorem gG {P:Prop} (h:P:=by rw [hl] at h0;exact h0):P:=h
theorem eH {P:Prop} (h:P:=by rw [hr.len];exact ha):P:=h
theorem qw {P:Prop} (h:P:=by first|omega|(simp;done)|(simp;omega)):P:=h
theorem mR {P:Prop} (h:P:=by rw [List.length_take];omega):P:=h
theorem Y8 {P:Prop} (h:P:=by rw [hs2];omega):P:=h
theorem fJ {P:Prop} (h:P:=by have:=h.lt;omega):P:=h
theorem Yl {P:Prop} (h:P:=by simpa using hi):P:=h
theorem Rq {P:Prop} (h:P:=by rw [e]):P:=h
theorem kH {P:Prop} (h:P:=by have:=HM.out;omega):P:=h
theorem gZ {P:Prop} (h:P:=by (try split)<;>omega):P:=h
theorem UD {P:Prop} (h:P:=by cases h):P:=h
theorem aH {P:Prop} (h:P:=by simpa using hl):P:=h
theorem fM {P:Prop} (h:P:=by simpa using e'):P:=h
theorem dH {P:Prop} (h:P:=by rw [Dw];omega):P:=h
theorem vr {P:Prop} (h:P:=by unfold Func.isWrapper;first|(rw [if_pos Ku];kernel_rfl)|(rw [if_neg Ku];exact⟨rfl,rfl⟩)):P:=h
theorem Bu {P:Prop} (h:P:=by (repeat (first|exact Below.refl _ _|refine Below.setCell ?_ ?_ _|refine Ext.below ?_ ?_ _|refine Below.alloc ?_ ?_ _))<;>(first|(simp;done)|(simp;omega)|omega)):P:=h
theorem Ie {P:Prop} (h:P:=by (repeat (first|exact Below.refl _ _|refine Below.setCell ?_ ?_ _|refine Ext.below ?_ ?_ _|refine Below.alloc ?_ ?_ _))<;>(first|(simp;done)|(simp;omega)|omega|(simp only [World.size_setCell,World.size_alloc];refine Nat.le_trans ?_ (Below.size (Ext.h _));simp only [World.size_setCell,World.size_alloc];omega))):P:=h
theorem jU {P:Prop} (h:P:=by (repeat (first|assumption|refine Below.setCell ?_ ?_ _|refine Ext.below ?_ ?_ _|refine Below.alloc ?_ ?_ _))<;>(first|(simp;done)|(simp;omega)|omega)):P:=h
theorem A3 {p:Prop} (h:p):Hid p:=Lib.hid h
theorem AX {α:Type _} {xs:List α} {i:Nat} (h:i<xs.toArray.size):xs.toArray[i]=xs[i]'(by simpa using h):=rfl
theorem Ad {α:Type _} {a:α} {ys:List α} (h:0<(a :: ys).length):(a :: ys)[0]=a:=rfl
theorem Ac {α:Type _} {a:α} {ys:List α} {i:Nat} (h:i+1<(a :: ys).length):(a :: ys)[i+1]=ys[i]'(by simpa using h):=rfl
theorem AW {α:Type _} (l:List α) (i:Nat) (a:α):l.toArray.setIfInBounds i a=(l.set i a).toArray:=List.setIfInBounds_toArray ..
theorem Ab {α:Type _} (x:α) (xs:List α) (a:α):(x :: xs).set 0 a=a :: xs:=rfl
theorem AY {α:Type _} (x:α) (xs:List α) (i:Nat) (a:α):(x :: xs).set (i+1) a=x :: xs.set i a:=rfl
theorem Ew {α:Type _} (a:α) (ys:List α) (i:Nat):(a :: ys).take (i+1)=a :: ys.take i:=rfl
theorem Er {α:Type _} (a:α) (ys:List α) (i:Nat):(a :: ys).drop (i+1)=ys.drop i:=rfl
abbrev BO:List Value:=[.int .i32 0,.int .i32 0,.int .i32 0,.int .i32 0,.int .i32 0,.int .i32 0,.int .i32 0,.int .i32 0,.int .i32 0,.int .i32 0,.int .i32 0,.int .i32 0,.int .i32 0,.int .i32 0,.int .i32 0,.int .i32 0,.int .i32 0,.int .i32 0,.int .i32 0,.int .i32 0,.int .i32 0,.int .i32 0,.int .i32 0,.int .i32 0,.int .i32 0,.int .i32 0,.int .i32 0,.int .i32 0,.int .i32 0,.int .i32 0,.int .i32 0,.int .i32 0]
def zC:=@List.take_succ_eq_append_getElem
def wX:=@returnsInHanded_of_change_and
def Be:=@Array.getElem?_eq_some_iff
def J4:=@List.getElem?_append_right
def Bl:=@List.getElem?_eq_some_iff
def JJ:=@List.getElem?_append_left
def iQ:=@List.drop_eq_getElem_cons
def Zg:=@List.mem_or_eq_of_mem_set
def gQ:=@Classical.byContradiction
def Qr:=@List.pairwise_iff_getElem
def Aj:=@List.getElem?_eq_getElem
def uk:=@Array.setIfInBounds_comm
def oq:=@OpenClaim.holds_of_wide
def Zs:=@List.length_eq_zero_iff
def dB:=@List.getElem?_replicate
def Gq:=@List.take_of_length_le
def Pb:=@World.frozen?_of_block
def jE:=@Option.map_eq_some_iff
def kE:=@MapKept.run_getObj_map
def qD:=@Array.getElem?_eq_none
def LH:=@List.mem_iff_getElem?
def ZM:=@List.take_append_drop
def um:=@ChangeSpec.witness_at
def E0:=@List.getElem?_eq_none
def jN:=@List.length_filter_le
def Xv:=@List.getElem?_toArray
def oL:=@List.getElem?_zipWith
def sQ:=@ownsRow_setCell_below
def OU:=@ownsRow_setCell_other
def Ni:=@toList_madeCells_one
def Bf:=@List.mem_of_getElem?
def Kf:=@wpList_append_own_at
def sL:=@List.mem_of_mem_take
def F9:=@List.mem_cons_of_mem
def Df:=@World.cell?_of_block
def vH:=@List.pairwise_append
def Zm:=@Go.IntWalk.wrap64_in
def Ty:=@List.mem_append_left
def fh:=@List.getElem?_set_ne
def tj:=@Region.noSelect_spec
def ZZ:=@getD_replicate_false
def Ls:=@beq_eq_false_iff_ne
def Ic:=@List.length_pos_iff
def ox:=@World.ownsRow.alloc
def Q4:=@List.map_congr_left
def Ev:=@List.getElem?_range
def YN:=@wp_region_held_drew
def QD:=@List.flatMap_append
def Zp:=@List.getElem_of_mem
def qd:=@List.length_zipWith
def P6:=@Int.toNat_of_nonneg
def nN:=@List.length_reverse
def xD:=@all_oneCell_toArray
def WZ:=@List.getElem_range
def MZ:=@Bool.false_eq_true
def BL:=@Below.heap_setCell
def FO:=@List.length_append
def qK:=@World.ownsRow.drew
def Cq:=@Nat.lt_of_lt_of_le
def Jo:=@List.mem_cons_self
def eA:=@List.filter_append
def gL:=@Tryz.underlying107
def gw:=@World.size_setCell
def sF:=@List.mem_singleton
def BH:=@Tryz.underlying174
def TC:=@Nat.eq_zero_or_pos
def rO:=@Tryz.underlying113
def eu:=@List.getElem?_take
def mW:=@List.getElem?_drop
def gh:=@List.countP_append
def gN:=@List.mem_replicate
def Ef:=@Tryz.underlying220
def fN:=@Bool.eq_false_iff
def Ey:=@Tryz.underlying38
def G4:=@List.take_add_one
def MN:=@Tryz.underlying99
def Dk:=@Int.toNat_natCast
def U8:=@Tryz.underlying55
def DK:=@decide_eq_true_eq
def JV:=@World.ownsRow_nil
def Yq:=@wp_region_noPanic
def GQ:=@of_decide_eq_true
def Cr:=@List.getElem?_map
def mC:=@List.flatten_cons
def PR:=@List.foldl_append
def Ri:=@Option.some.injEq
def Iu:=@List.size_toArray
def Ej:=@heap_setCell_same
def IY:=@List.getElem?_set
def Ut:=@Tryz.underlying96
def JX:=@List.ext_getElem?
def kT:=@List.length_range
def JO:=@List.flatMap_cons
def qX:=@Tryz.zeroValue113
def uX:=@Tryz.underlying70
def jk:=@List.pairwise_map
def X5:=@List.append_assoc
def cZ:=@List.nodup_append
def Z6:=@Result.andThen_ok
def uw:=@List.all_eq_false
def ng:=@List.mapM_toArray
def aJ:=@Tryz.underlying29
def uF:=@Tryz.underlying57
def iG:=@Tryz.underlying59
def Zl:=@Tryz.underlying31
def lf:=@Tryz.underlying22
def mD:=@DataW.trod_string
def eV:=@Go.Maps.int_keyed
def Ee:=@wpList_append_own
def gD:=@IntWalk.wrap64_in
def MJ:=@List.ext_getElem
def UW:=@List.getElem_map
def Wh:=@List.getElem_set
def CS:=@Tryz.underlying3
def EY:=@Bool.and_eq_true
def Ma:=@List.all_eq_true
def El:=@World.size_alloc
def XF:=@decide_eq_decide
def tV:=@Bool.not_eq_true
def U7:=@Tryz.underlying4
def Cn:=@List.getElem_mem
def iX:=@List.cons_append
def GD:=@List.length_cons
def aN:=@List.filter_cons
def Bp:=@wpList_store_row
def Hx:=@List.take_length
def mj:=@List.any_eq_true
def fD:=@List.flatMap_nil
def rQ:=@Tryz.underlying5
def gH:=@Tryz.underlying0
def om:=@Tryz.zeroValue38
def Xm:=@Tryz.underlying9
def RM:=@List.length_take
def jw:=@List.length_drop
def TG:=@List.countP_cons
def cj:=@List.mem_flatMap
def uh:=@Region.free_spec
def Xb:=@List.not_mem_nil
def OI:=@Bool.eq_iff_iff
def ED:=@List.length_map
def Aq:=@decide_eq_false
def CG:=@List.mem_append
def Re:=@trodAll_cons_mk
def Gl:=@Option.some.inj
def J5:=@List.range_succ
def M8:=@List.append_nil
def Nx:=@List.map_append
def Cu:=@wpList_load_mid
def ZU:=@List.cons.injEq
def Me:=@List.foldl_cons
def NP:=@List.length_set
def Yp:=@List.length_nil
def jB:=@Option.map_some
def lN:=@Tryz.zeroValue0
def lz:=@Tryz.zeroValue4
def ZR:=@Tryz.zeroValue3
def aS:=@Bool.or_eq_true
def Sz:=@List.mem_filter
def mI:=@Tryz.results135
def Th:=@Tryz.results108
def WT:=@run_loadVar_mid
def WH:=@Tryz.results148
def fy:=@Tryz.results107
def jV:=@Tryz.results155
def ji:=@Tryz.results105
def Uw:=@Tryz.results106
def Mn:=@Tryz.results134
def Kt:=@Tryz.results131
def cP:=@Tryz.results145
def Ai:=@heap_alloc_new
def AR:=@decide_eq_true
def Bb:=@heap_alloc_old
def Yn:=@NoPanic.normal
def J9:=@List.mem_range
def GN:=@IntWalk.i64_in
def Eg:=@AllReadyH.cons
def Jt:=@IntWalk.u32_in
def Qf:=@run_underlying
def MR:=@Tryz.results88
def bC:=@List.mapM_cons
def NC:=@DataW.trod_int
def Fo:=@wp_loop_rounds
def O7:=@run_make_full
def CJ:=@Below.setCell
def GV:=@AllReadyH.nil
def RR:=@DataW.trod_lt
def nK:=@Prod.mk.injEq
def Vn:=@List.map_cons
def Zv:=@List.sum_cons
def Di:=@List.mem_cons
def gO:=@Tryz.ntmps135
def Xt:=@Tryz.ntmps108
def jl:=@List.mapM_nil
def UC:=@Nat.add_assoc
def WE:=@Tryz.ntmps148
def l9:=@Tryz.ntmps155
def jb:=@Tryz.ntmps105
def VD:=@Tryz.ntmps106
def MX:=@Tryz.ntmps134
def LP:=@Tryz.ntmps131
def fP:=@Tryz.ntmps145
def EU:=@Nat.zero_add
def DV:=@cell_one_new
def GI:=@ownsRow_succ
def Al:=@bodyPost_ret
def ZT:=@Tryz.ntmps80
def EM:=@Nat.le_trans
def Bt:=@below_setRow
def Tw:=@setRow_other
def GZ:=@wpAnyH_ready
def Bx:=@List.mem_map
def TN:=@Nat.zero_mul
def fU:=@Nat.add_zero
def fe:=@List.map_set
def Uh:=@Nat.add_comm
def XU:=@List.map_nil
def dX:=@Tryz.ntmps33
def dR:=@Tryz.ntmps30
def ep:=@forall_const
def PI:=@Sem.run_bind
def gz:=@Tryz.sizeOf0
def kf:=@Tryz.sizeOf4
def Y1:=@Tryz.sizeOf3
def ZO:=@callsIn_wide
def Zy:=@Sem.run_pure
def je:=@Tryz.func135
def YH:=@Tryz.func108
def au:=@results_none
def aC:=@Tryz.ntmps88
def Iz:=@Nat.lt_or_ge
def FU:=@Tryz.ntmps95
def VP:=@Tryz.func148
def jZ:=@Tryz.func155
def jS:=@Tryz.func105
def Vp:=@Tryz.func106
def MU:=@Tryz.func134
def Lf:=@Tryz.func131
def aA:=@Tryz.func145
def AH:=@Nat.le_refl
def Mk:=@Nat.mul_one
def Ck:=@Nat.zero_le
def Ba:=@wpQuiet_nil
def JE:=@Int.le_refl
def QH:=@Below.alloc
def Xa:=@Tryz.func80
def BI:=@wpAnyH_take
def VJ:=@wpAnyH_done
def IJ:=@setRow_heap
def dO:=@Tryz.func33
def ew:=@Tryz.func30
def Wx:=@Tryz.isAgg3
def I9:=@cell_of_row
def fV:=@Tryz.func88
def S4:=@getD_set_ne
def FV:=@Tryz.func95
def BP:=@rounds_succ
def AP:=@Below.refl
def D5:=@info_parts
def Gg:=@Below.drew
def Qn:=@Below.trod
def V7:=@beq_iff_eq
def Rm:=@ready_mono
def Dt:=@And.intro
def Oh:=@mem_ready
def YE:=@getD_both
def N0:=@if_false
def V9:=@run_make
def VQ:=@or_false
def Vf:=@Prod.ext
def Ds:=@Ne.symm
def N1:=@if_true
def AE:=@if_pos
def A9:=@if_neg
def Bq:=@Or.inl
def Jk:=@Or.inr
theorem AA {α:Sort _} (t:α):∃x,t=x:=⟨t,rfl⟩
theorem Aa {P:Prop} (h:P:=by simp [intOf];omega):P:=h
theorem AL {p0 p1:Prop} (h0:p0) (h1:p1):Hid p0∧Hid p1:=⟨Lib.hid h0,Lib.hid h1⟩
theorem B8 {p0 p1 p2:Prop} (h0:p0) (h1:p1) (h2:p2):Hid p0∧Hid p1∧Hid p2:=⟨Lib.hid h0,Lib.hid h1,Lib.hid h2⟩
theorem Bz {p0 p1 p2 p3:Prop} (h0:p0) (h1:p1) (h2:p2) (h3:p3):Hid p0∧Hid p1∧Hid p2∧Hid p3:=⟨Lib.hid h0,Lib.hid h1,Lib.hid h2,Lib.hid h3⟩
theorem Fi {p0 p1 p2 p3 p4:Prop} (h0:p0) (h1:p1) (h2:p2) (h3:p3) (h4:p4):Hid p0∧Hid p1∧Hid p2∧Hid p3∧Hid p4:=⟨Lib.hid h0,Lib.hid h1,Lib.hid h2,Lib.hid h3,Lib.hid h4⟩
theorem I2 {p0 p1 p2 p3 p4 p5:Prop} (h0:p0) (h1:p1) (h2:p2) (h3:p3) (h4:p4) (h5:p5):Hid p0∧Hid p1∧Hid p2∧Hid p3∧Hid p4∧Hid p5:=⟨Lib.hid h0,Lib.hid h1,Lib.hid h2,Lib.hid h3,Lib.hid h4,Lib.hid h5⟩
theorem Yi {p0 p1 p2 p3 p4 p5 p6:Prop} (h0:p0) (h1:p1) (h2:p2) (h3:p3) (h4:p4) (h5:p5) (h6:p6):Hid p0∧Hid p1∧Hid p2∧Hid p3∧Hid p4∧Hid p5∧Hid p6:=⟨Lib.hid h0,Lib.hid h1,Lib.hid h2,Lib.hid h3,Lib.hid h4,Lib.hid h5,Lib.hid h6⟩
theorem Ki {p0 p1 p2 p3 p4 p5 p6 p7:Prop} (h0:p0) (h1:p1) (h2:p2) (h3:p3) (h4:p4) (h5:p5) (h6:p6) (h7:p7):Hid p0∧Hid p1∧Hid p2∧Hid p3∧Hid p4∧Hid p5∧Hid p6∧Hid p7:=⟨Lib.hid h0,Lib.hid h1,Lib.hid h2,Lib.hid h3,Lib.hid h4,Lib.hid h5,Lib.hid h6,Lib.hid h7⟩
end Go.Proofs.YtlmgkipmfgijiaaGreatDoor
