/-
  What is proved here: parts bCa.
-/
import Derived.Test.YtebklpnkcicpjaaGreatDoorXa
import Derived.Test.YtebklpnkcicpjaaGreatDoorXb
import Derived.Lib.Bytealg
import Derived.Lib.Strings
import Derived.MapViews
namespace Go.Proofs.YtebklpnkcicpjaaGreatDoor
set_option linter.unusedVariables false
set_option linter.unusedSimpArgs false
set_option maxRecDepth 100000
set_option maxHeartbeats 8000000
section
open Go.RowKit
open Go.RowKit
open Go.RowKit
open Go.RowKit
open Go.RowKit
open Go.RowKit
def fo (op : Int) : Bool := decide (op = 22) || decide (op = 23) || decide (op = 24)
theorem ou (op : Int) (w : World) : Calls Tryz.prog 97 #[.int .u8 op] w fun e w' => e = .returned (.bool (fo op)) ∧ w = w' := by
 go_enter Tryz.func97, Tryz.ntmps97
 go_wp2
 all_goals
  go_ret
  refine ⟨bC ?_, rfl⟩
  unfold fo
  first | (simp_all; done) | trivial
theorem vK (c : Int) (w : World) : Calls Tryz.prog 100 #[.int .u8 c] w fun e w' => e = .returned (.tuple #[.int .i64 (if c = 65 then 22 else if c = 66 then 18 else if c = 67 then 14 else 0), .int .i64 (if c = 65 then 4 else if c = 66 then 4 else if c = 67 then 4 else 18)]) ∧ w = w' := by
 go_enter Tryz.func100, Tryz.ntmps100
 go_wp2
 all_goals
  go_ret2
  refine ⟨?_, rfl⟩
  first | (simp_all; done) | trivial
def gl (c : Int) : Nat := if c = 65 then 1 else if c = 66 then 2 else if c = 67 then 3 else 4
theorem fu (b : Nat) (c : Int) (w : World) : Calls Tryz.prog 72 #[.pointer (some ⟨b, 0, none⟩), .int .u8 c] w fun e w' => e = .returned (.pointer (some ⟨b, gl c, none⟩)) ∧ w = w' := by
 go_enter Tryz.func72, Tryz.ntmps72
 go_wp2
 all_goals
  go_ret
  refine ⟨?_, rfl⟩
  unfold gl
  first | (simp_all; done) | trivial
structure aZ where
 op : Int
 a : Int
 b : Int
 c : Int
 aS : Int
deriving Inhabited, DecidableEq
def aZ.val (i : aZ) : Value := .agg #[.int .u8 i.op, .int .i64 i.a, .int .i64 i.b, .int .i64 i.c, .int .i64 i.aS]
def aZ.cells (i : aZ) : List Value := [.int .u8 i.op, .int .i64 i.a, .int .i64 i.b, .int .i64 i.c, .int .i64 i.aS]
theorem qL (i : aZ) (at_ : Int) (w : World) (h1 : IntKind.i64.wrap (at_ + 1) = at_ + 1) (h2 : IntKind.i64.wrap (at_ + 1 + i.aS) = at_ + 1 + i.aS) : Calls Tryz.prog 98 #[.agg #[.int .u8 i.op, .int .i64 i.a, .int .i64 i.b, .int .i64 i.c, .int .i64 i.aS], .int .i64 at_] w fun e w' => e = .returned (.tuple #[.int .i64 (if fo i.op = true then at_ + 1 + i.aS else 0), .bool (fo i.op)]) ∧ Below w.heap.size w w' := by
 have HI := ou i.op
 go_enter Tryz.func98, Tryz.ntmps98
 rcases hb : fo i.op
 all_goals
  rw [hb] at HI
  go_wp2_with (go_at_call 97; refine (HI _).mono ?_; rintro e w' ⟨rfl, rfl⟩)
 all_goals
  go_ret2
  refine ⟨?_, ?_⟩
  ·simp_all
  exact acA
theorem GD (s : ByteArray) (c : Int) (w : World) :
  Calls Tryz.prog 101 #[.string s, .int .u8 c] w fun e w' => e = .returned (.int .i64 (Lib.indexByte s.data.toList c.toNat.toUInt8)) ∧ w = w' := by
 go_enter Tryz.func101, Tryz.ntmps101
 go_wp2
 rw [run_callFunc_extern Tryz.func116 abp abp abp (e := Extern.BytealgIndexByte.indexByte) abp, Lib.run_indexByteString]
 simp only [Result.andThen]
 rw [Oper.upon_value]
 go_wp2
 go_ret
 exact ⟨rfl, rfl⟩
theorem qB (s : ByteArray) (c : Int) (w : World) :
  Calls Tryz.prog 71 #[.string s, .int .u8 c] w fun e w' => e = .returned (.int .i64 (Lib.indexByte s.data.toList c.toNat.toUInt8)) ∧ w = w' := by
 go_enter Tryz.func71, Tryz.ntmps71
 go_wp2_with (go_at_call 101; refine (GD _ _ _).mono ?_; rintro e w' ⟨rfl, rfl⟩)
 go_ret
 exact ⟨rfl, rfl⟩
structure Fm where
 mn : List UInt8
 ops : List UInt8
 rd : List UInt8
 wr : Bool
 lo : Int
 hi : Int
deriving Inhabited
def Fm.cells (f : Fm) : List Value := [.string ⟨f.mn.toArray⟩, .string ⟨f.ops.toArray⟩, .string ⟨f.rd.toArray⟩, .bool f.wr, .int .i64 f.lo, .int .i64 f.hi]
def Fm.data {H : Type} (f : Fm) : DataW H := .agg [.lit (.string f.mn), .lit (.string f.ops), .lit (.string f.rd), .lit (.bool f.wr), .lit (.int .i64 f.lo), .lit (.int .i64 f.hi)]
theorem Ab {H : Type} {enc : TypeId × Value → H} {w : World} {base : Nat} {sp : Nat → Bool} {held : Bool} {fuel : Nat} {cs : List Value} {f : Fm} {p : List MemPlace}
  (h : DataW.trod enc Tryz.prog w base sp held fuel 140 cs = some (f.data, p)) : cs = f.cells := by
 cases fuel with
 | zero => simp [DataW.trod] at h
 | succ fuel =>
  rw [DataW.trod_step] at h
  unfold DataW.trodStep at h
  simp only [Tryz.underlying140] at h
  have Nh : Tryz.prog.cellsOf 140 = 6 := by kernel_rfl
  have c9 : Tryz.prog.cellsOf 9 = 1 := by kernel_rfl
  have c4 : Tryz.prog.cellsOf 4 = 1 := by kernel_rfl
  have c3 : Tryz.prog.cellsOf 3 = 1 := by kernel_rfl
  rw [Nh] at h
  split at h
  ·rename_i hl
   obtain ⟨v0, v1, v2, v3, v4, v5, rfl⟩ : ∃ v0 v1 v2 v3 v4 v5, cs = [v0, v1, v2, v3, v4, v5] := by
    match cs, hl with
    | [a, b, c, d, e, g], _ => exact ⟨a, b, c, d, e, g, rfl⟩
   simp only [c9, c4, c3, acL, List.drop_zero, acK, List.take_zero, Option.map_eq_some_iff, List.mapM_cons, List.mapM_nil, Option.bind_eq_bind, Option.bind_eq_some_iff, Option.pure_def, Option.some.injEq] at h
   obtain ⟨xs, ⟨y0, h0, _, ⟨y1, h1, _, ⟨y2, h2, _, ⟨y3, h3, _, ⟨y4, h4, _, ⟨y5, h5, _, rfl, rfl⟩, rfl⟩, rfl⟩, rfl⟩, rfl⟩, rfl⟩, hx⟩ := h
   obtain ⟨s0, e0, rfl, _⟩ := DataW.trod_string Tryz.underlying9 h0
   obtain ⟨s1, e1, rfl, _⟩ := DataW.trod_string Tryz.underlying9 h1
   obtain ⟨s2, e2, rfl, _⟩ := DataW.trod_string Tryz.underlying9 h2
   obtain ⟨s3, e3, rfl⟩ := DataW.trod_bool Tryz.underlying4 h3
   obtain ⟨s4, e4, rfl, _⟩ := DataW.trod_int Tryz.underlying3 h4
   obtain ⟨s5, e5, rfl, _⟩ := DataW.trod_int Tryz.underlying3 h5
   simp only [List.cons.injEq, and_true] at e0 e1 e2 e3 e4 e5
   subst e0 e1 e2 e3 e4 e5
   obtain ⟨f0, f1, f2, f3, f4, f5⟩ := f
   obtain ⟨⟨a0⟩⟩ := s0
   obtain ⟨⟨a1⟩⟩ := s1
   obtain ⟨⟨a2⟩⟩ := s2
   simp [Fm.data] at hx
   obtain ⟨⟨rfl, rfl, rfl, rfl, rfl, rfl⟩, _⟩ := hx
   rfl
  ·cases h
def Kj : List Fm := [⟨[110, 111, 112], [], [], false, 0, 0⟩, ⟨[104, 97, 108, 116], [], [], false, 0, 0⟩, ⟨[97, 100, 100], [65, 66, 67], [66, 67], true, 0, 0⟩, ⟨[115, 117, 98], [65, 66, 67], [66, 67], true, 0, 0⟩, ⟨[109, 117, 108], [65, 66, 67], [66, 67], true, 0, 0⟩, ⟨[100, 105, 118], [65, 66, 67], [66, 67], true, 0, 0⟩, ⟨[109, 111, 100], [65, 66, 67], [66, 67], true, 0, 0⟩, ⟨[97, 110, 100], [65, 66, 67], [66, 67], true, 0, 0⟩, ⟨[111, 114], [65, 66, 67], [66, 67], true, 0, 0⟩, ⟨[120, 111, 114], [65, 66, 67], [66, 67], true, 0, 0⟩, ⟨[115, 104, 108], [65, 66, 67], [66, 67], true, 0, 0⟩, ⟨[115, 104, 114], [65, 66, 67], [66, 67], true, 0, 0⟩, ⟨[101, 113], [65, 66, 67], [66, 67], true, 0, 0⟩, ⟨[108, 116], [65, 66, 67], [66, 67], true, 0, 0⟩, ⟨[108, 105], [65, 73], [], true, (-131072), 131071⟩, ⟨[97, 100, 100, 105], [65, 66, 73], [66], true, (-131072), 131071⟩, ⟨[115, 104, 108, 105], [65, 66, 73], [66], true, 0, 31⟩, ⟨[111, 114, 105], [65, 66, 73], [66], true, 0, 16383⟩, ⟨[108, 100], [65, 66, 73], [66], true, (-131072), 131071⟩, ⟨[115, 116], [65, 66, 73], [65, 66], false, (-131072), 131071⟩, ⟨[108, 100, 115], [65, 66, 73], [66], true, (-131072), 131071⟩, ⟨[115, 116, 115], [65, 66, 73], [65, 66], false, (-131072), 131071⟩, ⟨[98, 101, 113, 122], [65, 73], [65], false, (-131072), 131071⟩, ⟨[98, 110, 101, 122], [65, 73], [65], false, (-131072), 131071⟩, ⟨[106, 109, 112], [73], [], false, (-131072), 131071⟩, ⟨[98, 111, 117, 110, 100], [65, 73], [65], false, 1, 131071⟩, ⟨[105, 110], [65, 73], [], true, 0, 7⟩, ⟨[111, 117, 116], [65, 73], [65], false, 0, 7⟩, ⟨[108, 111, 99, 107], [73], [], false, 0, 3⟩, ⟨[117, 110, 108, 111, 99, 107], [73], [], false, 0, 3⟩]
theorem GK {H : Type} : (Rows.laid_ontime_isa_formats : DataW H) = .agg (Kj.map Fm.data) := by kernel_rfl
def gj : List Value := Kj.flatMap Fm.cells
theorem Dt {α β : Type} {g : α → Option β} {L : List α} {xs : List β} (h : L.mapM g = some xs) : xs.length = L.length ∧ ∀ i, i < L.length → ∃ a b, L[i]? = some a ∧ xs[i]? = some b ∧ g a = some b := by
 induction L generalizing xs with
 | nil => simp at h; subst h; exact ⟨rfl, fun i hi => by simp at hi⟩
 | cons a L ih =>
  rw [List.mapM_cons] at h
  simp only [bind, Option.bind_eq_some_iff, pure, Option.some.injEq] at h
  obtain ⟨y, hy, ys, hys, rfl⟩ := h
  obtain ⟨l1, l2⟩ := ih hys
  refine ⟨by simp [l1], fun i hi => ?_⟩
  cases i with
  | zero => exact ⟨a, y, rfl, rfl, hy⟩
  | succ i => simpa using l2 i acz
theorem uR {α : Type} (c : Nat) : ∀ (rows : List (List α)) (cs : List α), cs.length = rows.length * c → (∀ i r, rows[i]? = some r → (cs.drop (i * c)).take c = r) → cs = rows.flatten
 | [], cs, hl, _ => by simp at hl; simp [hl]
 | r :: rows, cs, hl, h => by
  have h0 := h 0 r rfl
  simp only [Nat.zero_mul, List.drop_zero] at h0
  have hl' : cs.length = rows.length * c + c := by rw [hl, List.length_cons, Nat.succ_mul]
  have := uR c rows (cs.drop c) (by rw [List.length_drop]; omega) (fun i r' hr => by
   have := h (i + 1) r' (by simpa using hr)
   rw [Nat.succ_mul, Nat.add_comm] at this
   rwa [List.drop_drop])
  rw [List.flatten_cons, ← this, ← h0, List.take_append_drop]
theorem tW {W : World} (h : laidMet Tryz.prog [("ontime/isa.formats", Rows.laid_ontime_isa_formats)] W) : W.var? Tryz.prog "ontime/isa.formats" = some gj.toArray := by
 obtain ⟨ps, ⟨g, t, cs, fuel, p, q, hg, ht, Tu, hd, _, _⟩, _⟩ := h
 obtain rfl := Option.some.inj ((show Tryz.prog.globalNamed "ontime/isa.formats" = some 0 by kernel_rfl).symm.trans hg)
 obtain rfl := Option.some.inj ((show (Tryz.prog.globals[0]?).map (·.type) = some 141 by kernel_rfl).symm.trans ht)
 rw [Tu]
 congr 1
 obtain ⟨l⟩ := cs
 cases fuel with
 | zero => simp [DataW.trod] at hd
 | succ fuel =>
  rw [DataW.trod_step] at hd
  unfold DataW.trodStep at hd
  have Ut : Tryz.prog.cellsOf 141 = 180 := by kernel_rfl
  have Nh : Tryz.prog.cellsOf 140 = 6 := by kernel_rfl
  simp only [Tryz.underlying141] at hd
  rw [Ut, Nh] at hd
  split at hd
  ·rename_i hl
   rw [GK] at hd
   simp only [Option.map_eq_some_iff, Prod.mk.injEq, DataW.agg.injEq] at hd
   obtain ⟨xs, hx, e1, e2⟩ := hd
   obtain ⟨l1, l2⟩ := Dt hx
   have hrow : ∀ i r, (Kj.map Fm.cells)[i]? = some r → (l.drop (i * 6)).take 6 = r := by
    intro i r hr
    rw [List.getElem?_map] at hr
    obtain ⟨f, hf, rfl⟩ := Option.map_eq_some_iff.mp hr
    have hi : i < 30 := by
     have := (List.getElem?_eq_some_iff.mp hf).1
     exact this
    obtain ⟨a, b, ha, hb, hab⟩ := l2 i acz
    rw [List.getElem?_range hi] at ha
    obtain rfl := Option.some.inj ha
    have hb' : (xs.map (·.1))[i]? = some b.1 := by rw [List.getElem?_map, hb]; rfl
    rw [e1, List.getElem?_map, hf] at hb'
    have hb2 : f.data = b.1 := Option.some.inj hb'
    obtain ⟨b1, b2⟩ := b
    simp only at hb2
    subst hb2
    exact Ab hab
   have := uR 6 (Kj.map Fm.cells) l (by rw [show (Kj.map Fm.cells).length = 30 from rfl]; exact hl) hrow
   rw [this]
   rfl
  ·cases hd
theorem fC (a b : Int) : a < b ∨ b ≤ a := by omega
def fm (k : Nat) : Fm := Kj.getD k default
structure iU (w : World) : Prop where
 pos : 0 < w.heap.size
 cells : ∀ k, k < 30 → ∀ j v, (fm k).cells[j]? = some v → w.cell? ⟨0, k * 6 + j, none⟩ = some v
theorem iU.below {w w' : World} (h : iU w) (b : Below w.heap.size w w') : iU w' :=
 ⟨by have := b.size; have := h.pos; omega, fun k hk j v hv => by rw [b.cell (p := ⟨0, _, none⟩) h.pos]; exact h.cells k hk j v hv⟩
def rM : List Nat := [65, 66, 67, 73]
def aZ.at_ (i : aZ) (k : Nat) : Int := [i.a, i.b, i.c, i.aS].getD k 0
def fy (f : Fm) (k : Nat) : Int := if 0 ≤ Lib.indexByte f.ops ((rM.getD k 0)).toUInt8 then (if k = 3 then f.lo else 0) else 0
def dQ (f : Fm) (k : Nat) : Int := if 0 ≤ Lib.indexByte f.ops ((rM.getD k 0)).toUInt8 then (if k = 3 then f.hi else 15) else 0
def jx (f : Fm) (i : aZ) (k : Nat) : Prop := fy f k ≤ i.at_ k ∧ i.at_ k ≤ dQ f k
instance (f : Fm) (i : aZ) (k : Nat) : Decidable (jx f i k) := by unfold jx; infer_instance
def aU (i : aZ) : Bool := decide (i.op < 30) && (decide (jx (fm i.op.toNat) i 0) && decide (jx (fm i.op.toNat) i 1) && decide (jx (fm i.op.toNat) i 2) && decide (jx (fm i.op.toNat) i 3))
theorem cO {i : aZ} {j : Nat} (hj : j < 4) (h : ¬ jx (fm i.op.toNat) i j) : aU i = false := by
 unfold aU
 obtain rfl | rfl | rfl | rfl : j = 0 ∨ j = 1 ∨ j = 2 ∨ j = 3 := by omega
 all_goals simp [h]
theorem qI {i : aZ} (ho : i.op < 30) (h : ∀ j, j < 4 → jx (fm i.op.toNat) i j) : aU i = true := by
 unfold aU
 simp [ho, h 0, h 1, h 2, h 3]
structure VL (w wr : World) (i : aZ) (f : Fm) : Prop where
 sz : w.heap.size + 2 ≤ wr.heap.size
 aF : Below w.heap.size w wr
 i1 : wr.cell? ⟨w.heap.size, 1, none⟩ = some (.int .i64 i.a)
 i2 : wr.cell? ⟨w.heap.size, 2, none⟩ = some (.int .i64 i.b)
 i3 : wr.cell? ⟨w.heap.size, 3, none⟩ = some (.int .i64 i.c)
 i4 : wr.cell? ⟨w.heap.size, 4, none⟩ = some (.int .i64 i.aS)
 f1 : wr.cell? ⟨w.heap.size + 1, 1, none⟩ = some (.string ⟨f.ops.toArray⟩)
 f4 : wr.cell? ⟨w.heap.size + 1, 4, none⟩ = some (.int .i64 f.lo)
 f5 : wr.cell? ⟨w.heap.size + 1, 5, none⟩ = some (.int .i64 f.hi)
theorem VL.ext {w wr : World} {i : aZ} {f : Fm} (h : VL w wr i f) (x : Ext wr) : VL w x.w i f := by
 have hs := h.sz
 have b0 : w.heap.size < wr.heap.size := by omega
 have b1 : w.heap.size + 1 < wr.heap.size := by omega
 exact ⟨by have := x.h.size; omega, Ext.below h.aF abo x, by rw [x.cell _ _ b0]; exact h.i1, by rw [x.cell _ _ b0]; exact h.i2, by rw [x.cell _ _ b0]; exact h.i3, by rw [x.cell _ _ b0]; exact h.i4, by rw [x.cell _ _ b1]; exact h.f1, by rw [x.cell _ _ b1]; exact h.f4, by rw [x.cell _ _ b1]; exact h.f5⟩
theorem Ct (i : aZ) (h : ¬ i.op < 30) (w : World) :
  Calls Tryz.prog 32 #[.agg #[.int .u8 i.op, .int .i64 i.a, .int .i64 i.b, .int .i64 i.c, .int .i64 i.aS]] w fun e w' => e = .returned (.bool (aU i)) ∧ Below w.heap.size w w' := by
 have d : decide (30 ≤ i.op) = true := by simp; omega
 have HV := acD (show aU i = false by unfold aU; simp [h])
 go_enter Tryz.func32, Tryz.ntmps32
 go_wp2_with fail
 go_ret
 refine ⟨bC HV.out.symm, ?_⟩
 exact acA
theorem yX (i : aZ) (k : Nat) (hop : i.op = (k : Int)) (h : k < 30) (w : World) (T : iU w) :
  Calls Tryz.prog 32 #[.agg #[.int .u8 i.op, .int .i64 i.a, .int .i64 i.b, .int .i64 i.c, .int .i64 i.aS]] w fun e w' => e = .returned (.bool (aU i)) ∧ Below w.heap.size w w' := by
 have d : decide (30 ≤ i.op) = false := by simp; omega
 have hpos := T.pos
 have hT := T.cells k h
 have c0 := hT 0 _ rfl
 have c1 := hT 1 _ rfl
 have c2 := hT 2 _ rfl
 have c3 := hT 3 _ rfl
 have c4 := hT 4 _ rfl
 have c5 := hT 5 _ rfl
 rw [Nat.add_zero] at c0
 obtain ⟨op, a, b, c, aS⟩ := i
 simp only at hop d ⊢
 subst hop
 clear hT T
 go_enter Tryz.func32, Tryz.ntmps32
 go_wp2_with fail
 go_loopw [4, 5, 6, 7, 8, 16] (fun a4 a5 a6 a7 a8 q wr => ∃ j : Nat, j ≤ 4 ∧ q = .int .i64 (j : Int) ∧ (∀ m, m < j → jx (fm k) ⟨(k : Int), a, b, c, aS⟩ m) ∧ VL w wr ⟨(k : Int), a, b, c, aS⟩ (fm k)) (fun _ _ _ _ _ q _ => 4 - (intOf q).toNat)
 case atStart =>
  refine ⟨0, by omega, rfl, fun m hm => by omega, ?_⟩
  refine ⟨?_, ?_, ?_, ?_, ?_, ?_, ?_, ?_, ?_⟩
  all_goals first | (simp [go_sem]; done) | skip
  exact ((Below.refl _ _).alloc (Nat.le_refl _) _).alloc aby _
 case round =>
  obtain ⟨j, hj, rfl, hok, hV⟩ := hrel
  have HO := acD hok
  have gu := acD hV
  obtain ⟨sz, aF, i1, i2, i3, i4, f1, f4, f5⟩ := hV
  have b0 : w.heap.size < wr.heap.size := by omega
  have b1 : w.heap.size + 1 < wr.heap.size := by omega
  have HB := acD aF
  clear hok aF d c0 c1 c2 c3 c4 c5
  have z0 : ((({ data := #[65, 66, 67, 73] } : ByteArray)[0]'abr).toNat : Int) = 65 := rfl
  have z1 : ((({ data := #[65, 66, 67, 73] } : ByteArray)[1]'abr).toNat : Int) = 66 := rfl
  have z2 : ((({ data := #[65, 66, 67, 73] } : ByteArray)[2]'abr).toNat : Int) = 67 := rfl
  have z3 : ((({ data := #[65, 66, 67, 73] } : ByteArray)[3]'abr).toNat : Int) = 73 := rfl
  by_cases hlt : j < 4
  ·obtain ⟨X, hX⟩ : ∃ X, Lib.indexByte (fm k).ops ((rM.getD j 0)).toUInt8 = X := ⟨_, rfl⟩
   obtain rfl | rfl | rfl | rfl : j = 0 ∨ j = 1 ∨ j = 2 ∨ j = 3 := by omega
   ·have HI : ∀ w : World, Calls Tryz.prog 71 #[.string ⟨(fm k).ops.toArray⟩, .int .u8 65] w fun e w' => e = .returned (.int .i64 X) ∧ w = w' := fun w => by
     have := qB ⟨(fm k).ops.toArray⟩ 65 w
     rw [show Lib.indexByte (⟨(fm k).ops.toArray⟩ : ByteArray).data.toList (65 : Int).toNat.toUInt8 = X from hX] at this
     exact this
    have HF : ∀ W : World, Calls Tryz.prog 72 #[.pointer (some ⟨(w).heap.size, 0, none⟩), .int .u8 65] W fun e w' => e = .returned (.pointer (some ⟨(w).heap.size, 1, none⟩)) ∧ W = w' := fun w' => fu _ 65 w'
    by_cases hh : 0 ≤ X
    ·have dh : decide (0 ≤ X) = true := decide_eq_true hh
     have dM : fy (fm k) 0 = 0 := by unfold fy; rw [hX]; simp [hh]
     have cg : dQ (fm k) 0 = 15 := by unfold dQ; rw [hX]; simp [hh]
     have hat : aZ.at_ ⟨(k : Int), a, b, c, aS⟩ 0 = a := rfl
     rcases fC a 0 with g1 | g1
     ·have d1 : decide (a < 0) = true := decide_eq_true g1
      have HN := acD (cO (i := ⟨(k : Int), a, b, c, aS⟩) (j := 0) abo abB)
      clear dM cg hat
      go_wp2_with (first | (go_at_call 71; with_reducible refine (HI _).mono ?_; rintro e w' ⟨rfl, rfl⟩) | (go_at_call 72; with_reducible refine (HF _).mono ?_; rintro e w' ⟨rfl, rfl⟩))
      go_ret
      exact ⟨bC HN.out.symm, gu.out.aF⟩
     ·have d1 : decide (a < 0) = false := decide_eq_false abo
      rcases fC 15 a with g2 | g2
      ·have d2 : decide (15 < a) = true := decide_eq_true g2
       have HN := acD (cO (i := ⟨(k : Int), a, b, c, aS⟩) (j := 0) abo abC)
       clear dM cg hat
       go_wp2_with (first | (go_at_call 71; with_reducible refine (HI _).mono ?_; rintro e w' ⟨rfl, rfl⟩) | (go_at_call 72; with_reducible refine (HF _).mono ?_; rintro e w' ⟨rfl, rfl⟩))
       go_ret
       exact ⟨bC HN.out.symm, gu.out.aF⟩
      ·have d2 : decide (15 < a) = false := decide_eq_false abo
       have HY := acD (show jx (fm k) ⟨(k : Int), a, b, c, aS⟩ 0 from ⟨by rw [dM, hat]; omega, by rw [cg, hat]; omega⟩)
       clear dM cg hat
       go_wp2_with (first | (go_at_call 71; with_reducible refine (HI _).mono ?_; rintro e w' ⟨rfl, rfl⟩) | (go_at_call 72; with_reducible refine (HF _).mono ?_; rintro e w' ⟨rfl, rfl⟩))
       go_roundw
       case rel => exact ⟨0 + 1, by omega, by go_num, fun m hm => by
        rcases Nat.lt_or_ge m 0 with q | q
        ·exact HO.out m q
        ·obtain rfl : m = 0 := by omega
         exact HY.out, gu.out⟩
       case measure => simp [intOf]
    ·have dh : decide (0 ≤ X) = false := decide_eq_false hh
     have dM : fy (fm k) 0 = 0 := by unfold fy; rw [hX]; simp [hh]
     have cg : dQ (fm k) 0 = 0 := by unfold dQ; rw [hX]; simp [hh]
     have hat : aZ.at_ ⟨(k : Int), a, b, c, aS⟩ 0 = a := rfl
     rcases fC a 0 with g1 | g1
     ·have d1 : decide (a < 0) = true := decide_eq_true g1
      have HN := acD (cO (i := ⟨(k : Int), a, b, c, aS⟩) (j := 0) abo abB)
      clear dM cg hat
      go_wp2_with (first | (go_at_call 71; with_reducible refine (HI _).mono ?_; rintro e w' ⟨rfl, rfl⟩) | (go_at_call 72; with_reducible refine (HF _).mono ?_; rintro e w' ⟨rfl, rfl⟩))
      go_ret
      exact ⟨bC HN.out.symm, gu.out.aF⟩
     ·have d1 : decide (a < 0) = false := decide_eq_false abo
      rcases fC 0 a with g2 | g2
      ·have d2 : decide (0 < a) = true := decide_eq_true g2
       have HN := acD (cO (i := ⟨(k : Int), a, b, c, aS⟩) (j := 0) abo abC)
       clear dM cg hat
       go_wp2_with (first | (go_at_call 71; with_reducible refine (HI _).mono ?_; rintro e w' ⟨rfl, rfl⟩) | (go_at_call 72; with_reducible refine (HF _).mono ?_; rintro e w' ⟨rfl, rfl⟩))
       go_ret
       exact ⟨bC HN.out.symm, gu.out.aF⟩
      ·have d2 : decide (0 < a) = false := decide_eq_false abo
       have HY := acD (show jx (fm k) ⟨(k : Int), a, b, c, aS⟩ 0 from ⟨by rw [dM, hat]; omega, by rw [cg, hat]; omega⟩)
       clear dM cg hat
       go_wp2_with (first | (go_at_call 71; with_reducible refine (HI _).mono ?_; rintro e w' ⟨rfl, rfl⟩) | (go_at_call 72; with_reducible refine (HF _).mono ?_; rintro e w' ⟨rfl, rfl⟩))
       go_roundw
       case rel => exact ⟨0 + 1, by omega, by go_num, fun m hm => by
        rcases Nat.lt_or_ge m 0 with q | q
        ·exact HO.out m q
        ·obtain rfl : m = 0 := by omega
         exact HY.out, gu.out⟩
       case measure => simp [intOf]
   ·have HI : ∀ w : World, Calls Tryz.prog 71 #[.string ⟨(fm k).ops.toArray⟩, .int .u8 66] w fun e w' => e = .returned (.int .i64 X) ∧ w = w' := fun w => by
     have := qB ⟨(fm k).ops.toArray⟩ 66 w
     rw [show Lib.indexByte (⟨(fm k).ops.toArray⟩ : ByteArray).data.toList (66 : Int).toNat.toUInt8 = X from hX] at this
     exact this
    have HF : ∀ W : World, Calls Tryz.prog 72 #[.pointer (some ⟨(w).heap.size, 0, none⟩), .int .u8 66] W fun e w' => e = .returned (.pointer (some ⟨(w).heap.size, 2, none⟩)) ∧ W = w' := fun w' => fu _ 66 w'
    by_cases hh : 0 ≤ X
    ·have dh : decide (0 ≤ X) = true := decide_eq_true hh
     have dM : fy (fm k) 1 = 0 := by unfold fy; rw [hX]; simp [hh]
     have cg : dQ (fm k) 1 = 15 := by unfold dQ; rw [hX]; simp [hh]
     have hat : aZ.at_ ⟨(k : Int), a, b, c, aS⟩ 1 = b := rfl
     rcases fC b 0 with g1 | g1
     ·have d1 : decide (b < 0) = true := decide_eq_true g1
      have HN := acD (cO (i := ⟨(k : Int), a, b, c, aS⟩) (j := 1) abo abB)
      clear dM cg hat
      go_wp2_with (first | (go_at_call 71; with_reducible refine (HI _).mono ?_; rintro e w' ⟨rfl, rfl⟩) | (go_at_call 72; with_reducible refine (HF _).mono ?_; rintro e w' ⟨rfl, rfl⟩))
      go_ret
      exact ⟨bC HN.out.symm, gu.out.aF⟩
     ·have d1 : decide (b < 0) = false := decide_eq_false abo
      rcases fC 15 b with g2 | g2
      ·have d2 : decide (15 < b) = true := decide_eq_true g2
       have HN := acD (cO (i := ⟨(k : Int), a, b, c, aS⟩) (j := 1) abo abC)
       clear dM cg hat
       go_wp2_with (first | (go_at_call 71; with_reducible refine (HI _).mono ?_; rintro e w' ⟨rfl, rfl⟩) | (go_at_call 72; with_reducible refine (HF _).mono ?_; rintro e w' ⟨rfl, rfl⟩))
       go_ret
       exact ⟨bC HN.out.symm, gu.out.aF⟩
      ·have d2 : decide (15 < b) = false := decide_eq_false abo
       have HY := acD (show jx (fm k) ⟨(k : Int), a, b, c, aS⟩ 1 from ⟨by rw [dM, hat]; omega, by rw [cg, hat]; omega⟩)
       clear dM cg hat
       go_wp2_with (first | (go_at_call 71; with_reducible refine (HI _).mono ?_; rintro e w' ⟨rfl, rfl⟩) | (go_at_call 72; with_reducible refine (HF _).mono ?_; rintro e w' ⟨rfl, rfl⟩))
       go_roundw
       case rel => exact ⟨1 + 1, by omega, by go_num, fun m hm => by
        rcases Nat.lt_or_ge m 1 with q | q
        ·exact HO.out m q
        ·obtain rfl : m = 1 := by omega
         exact HY.out, gu.out⟩
       case measure => simp [intOf]
    ·have dh : decide (0 ≤ X) = false := decide_eq_false hh
     have dM : fy (fm k) 1 = 0 := by unfold fy; rw [hX]; simp [hh]
     have cg : dQ (fm k) 1 = 0 := by unfold dQ; rw [hX]; simp [hh]
     have hat : aZ.at_ ⟨(k : Int), a, b, c, aS⟩ 1 = b := rfl
     rcases fC b 0 with g1 | g1
     ·have d1 : decide (b < 0) = true := decide_eq_true g1
      have HN := acD (cO (i := ⟨(k : Int), a, b, c, aS⟩) (j := 1) abo abB)
      clear dM cg hat
      go_wp2_with (first | (go_at_call 71; with_reducible refine (HI _).mono ?_; rintro e w' ⟨rfl, rfl⟩) | (go_at_call 72; with_reducible refine (HF _).mono ?_; rintro e w' ⟨rfl, rfl⟩))
      go_ret
      exact ⟨bC HN.out.symm, gu.out.aF⟩
     ·have d1 : decide (b < 0) = false := decide_eq_false abo
      rcases fC 0 b with g2 | g2
      ·have d2 : decide (0 < b) = true := decide_eq_true g2
       have HN := acD (cO (i := ⟨(k : Int), a, b, c, aS⟩) (j := 1) abo abC)
       clear dM cg hat
       go_wp2_with (first | (go_at_call 71; with_reducible refine (HI _).mono ?_; rintro e w' ⟨rfl, rfl⟩) | (go_at_call 72; with_reducible refine (HF _).mono ?_; rintro e w' ⟨rfl, rfl⟩))
       go_ret
       exact ⟨bC HN.out.symm, gu.out.aF⟩
      ·have d2 : decide (0 < b) = false := decide_eq_false abo
       have HY := acD (show jx (fm k) ⟨(k : Int), a, b, c, aS⟩ 1 from ⟨by rw [dM, hat]; omega, by rw [cg, hat]; omega⟩)
       clear dM cg hat
       go_wp2_with (first | (go_at_call 71; with_reducible refine (HI _).mono ?_; rintro e w' ⟨rfl, rfl⟩) | (go_at_call 72; with_reducible refine (HF _).mono ?_; rintro e w' ⟨rfl, rfl⟩))
       go_roundw
       case rel => exact ⟨1 + 1, by omega, by go_num, fun m hm => by
        rcases Nat.lt_or_ge m 1 with q | q
        ·exact HO.out m q
        ·obtain rfl : m = 1 := by omega
         exact HY.out, gu.out⟩
       case measure => simp [intOf]
   ·have HI : ∀ w : World, Calls Tryz.prog 71 #[.string ⟨(fm k).ops.toArray⟩, .int .u8 67] w fun e w' => e = .returned (.int .i64 X) ∧ w = w' := fun w => by
     have := qB ⟨(fm k).ops.toArray⟩ 67 w
     rw [show Lib.indexByte (⟨(fm k).ops.toArray⟩ : ByteArray).data.toList (67 : Int).toNat.toUInt8 = X from hX] at this
     exact this
    have HF : ∀ W : World, Calls Tryz.prog 72 #[.pointer (some ⟨(w).heap.size, 0, none⟩), .int .u8 67] W fun e w' => e = .returned (.pointer (some ⟨(w).heap.size, 3, none⟩)) ∧ W = w' := fun w' => fu _ 67 w'
    by_cases hh : 0 ≤ X
    ·have dh : decide (0 ≤ X) = true := decide_eq_true hh
     have dM : fy (fm k) 2 = 0 := by unfold fy; rw [hX]; simp [hh]
     have cg : dQ (fm k) 2 = 15 := by unfold dQ; rw [hX]; simp [hh]
     have hat : aZ.at_ ⟨(k : Int), a, b, c, aS⟩ 2 = c := rfl
     rcases fC c 0 with g1 | g1
     ·have d1 : decide (c < 0) = true := decide_eq_true g1
      have HN := acD (cO (i := ⟨(k : Int), a, b, c, aS⟩) (j := 2) abo abB)
      clear dM cg hat
      go_wp2_with (first | (go_at_call 71; with_reducible refine (HI _).mono ?_; rintro e w' ⟨rfl, rfl⟩) | (go_at_call 72; with_reducible refine (HF _).mono ?_; rintro e w' ⟨rfl, rfl⟩))
      go_ret
      exact ⟨bC HN.out.symm, gu.out.aF⟩
     ·have d1 : decide (c < 0) = false := decide_eq_false abo
      rcases fC 15 c with g2 | g2
      ·have d2 : decide (15 < c) = true := decide_eq_true g2
       have HN := acD (cO (i := ⟨(k : Int), a, b, c, aS⟩) (j := 2) abo abC)
       clear dM cg hat
       go_wp2_with (first | (go_at_call 71; with_reducible refine (HI _).mono ?_; rintro e w' ⟨rfl, rfl⟩) | (go_at_call 72; with_reducible refine (HF _).mono ?_; rintro e w' ⟨rfl, rfl⟩))
       go_ret
       exact ⟨bC HN.out.symm, gu.out.aF⟩
      ·have d2 : decide (15 < c) = false := decide_eq_false abo
       have HY := acD (show jx (fm k) ⟨(k : Int), a, b, c, aS⟩ 2 from ⟨by rw [dM, hat]; omega, by rw [cg, hat]; omega⟩)
       clear dM cg hat
       go_wp2_with (first | (go_at_call 71; with_reducible refine (HI _).mono ?_; rintro e w' ⟨rfl, rfl⟩) | (go_at_call 72; with_reducible refine (HF _).mono ?_; rintro e w' ⟨rfl, rfl⟩))
       go_roundw
       case rel => exact ⟨2 + 1, by omega, by go_num, fun m hm => by
        rcases Nat.lt_or_ge m 2 with q | q
        ·exact HO.out m q
        ·obtain rfl : m = 2 := by omega
         exact HY.out, gu.out⟩
       case measure => simp [intOf]
    ·have dh : decide (0 ≤ X) = false := decide_eq_false hh
     have dM : fy (fm k) 2 = 0 := by unfold fy; rw [hX]; simp [hh]
     have cg : dQ (fm k) 2 = 0 := by unfold dQ; rw [hX]; simp [hh]
     have hat : aZ.at_ ⟨(k : Int), a, b, c, aS⟩ 2 = c := rfl
     rcases fC c 0 with g1 | g1
     ·have d1 : decide (c < 0) = true := decide_eq_true g1
      have HN := acD (cO (i := ⟨(k : Int), a, b, c, aS⟩) (j := 2) abo abB)
      clear dM cg hat
      go_wp2_with (first | (go_at_call 71; with_reducible refine (HI _).mono ?_; rintro e w' ⟨rfl, rfl⟩) | (go_at_call 72; with_reducible refine (HF _).mono ?_; rintro e w' ⟨rfl, rfl⟩))
      go_ret
      exact ⟨bC HN.out.symm, gu.out.aF⟩
     ·have d1 : decide (c < 0) = false := decide_eq_false abo
      rcases fC 0 c with g2 | g2
      ·have d2 : decide (0 < c) = true := decide_eq_true g2
       have HN := acD (cO (i := ⟨(k : Int), a, b, c, aS⟩) (j := 2) abo abC)
       clear dM cg hat
       go_wp2_with (first | (go_at_call 71; with_reducible refine (HI _).mono ?_; rintro e w' ⟨rfl, rfl⟩) | (go_at_call 72; with_reducible refine (HF _).mono ?_; rintro e w' ⟨rfl, rfl⟩))
       go_ret
       exact ⟨bC HN.out.symm, gu.out.aF⟩
      ·have d2 : decide (0 < c) = false := decide_eq_false abo
       have HY := acD (show jx (fm k) ⟨(k : Int), a, b, c, aS⟩ 2 from ⟨by rw [dM, hat]; omega, by rw [cg, hat]; omega⟩)
       clear dM cg hat
       go_wp2_with (first | (go_at_call 71; with_reducible refine (HI _).mono ?_; rintro e w' ⟨rfl, rfl⟩) | (go_at_call 72; with_reducible refine (HF _).mono ?_; rintro e w' ⟨rfl, rfl⟩))
       go_roundw
       case rel => exact ⟨2 + 1, by omega, by go_num, fun m hm => by
        rcases Nat.lt_or_ge m 2 with q | q
        ·exact HO.out m q
        ·obtain rfl : m = 2 := by omega
         exact HY.out, gu.out⟩
       case measure => simp [intOf]
   ·have HI : ∀ w : World, Calls Tryz.prog 71 #[.string ⟨(fm k).ops.toArray⟩, .int .u8 73] w fun e w' => e = .returned (.int .i64 X) ∧ w = w' := fun w => by
     have := qB ⟨(fm k).ops.toArray⟩ 73 w
     rw [show Lib.indexByte (⟨(fm k).ops.toArray⟩ : ByteArray).data.toList (73 : Int).toNat.toUInt8 = X from hX] at this
     exact this
    have HF : ∀ W : World, Calls Tryz.prog 72 #[.pointer (some ⟨(w).heap.size, 0, none⟩), .int .u8 73] W fun e w' => e = .returned (.pointer (some ⟨(w).heap.size, 4, none⟩)) ∧ W = w' := fun w' => fu _ 73 w'
    by_cases hh : 0 ≤ X
    ·have dh : decide (0 ≤ X) = true := decide_eq_true hh
     have dM : fy (fm k) 3 = (fm k).lo := by unfold fy; rw [hX]; simp [hh]
     have cg : dQ (fm k) 3 = (fm k).hi := by unfold dQ; rw [hX]; simp [hh]
     have hat : aZ.at_ ⟨(k : Int), a, b, c, aS⟩ 3 = aS := rfl
     rcases fC aS (fm k).lo with g1 | g1
     ·have d1 : decide (aS < (fm k).lo) = true := decide_eq_true g1
      have HN := acD (cO (i := ⟨(k : Int), a, b, c, aS⟩) (j := 3) abo abB)
      clear dM cg hat
      go_wp2_with (first | (go_at_call 71; with_reducible refine (HI _).mono ?_; rintro e w' ⟨rfl, rfl⟩) | (go_at_call 72; with_reducible refine (HF _).mono ?_; rintro e w' ⟨rfl, rfl⟩))
      refine az abp abp ?_
      repeat (go_big_quiet_step (fail))
      refine wpQuiet_nil ?_
      rintro _ ⟨y, rfl⟩
      go_wp2_with (go_at_call 72; with_reducible refine (HF _).mono ?_; rintro e w' ⟨rfl, rfl⟩)
      go_ret
      exact ⟨bC HN.out.symm, (gu.out.ext y).aF⟩
     ·have d1 : decide (aS < (fm k).lo) = false := decide_eq_false abo
      rcases fC (fm k).hi aS with g2 | g2
      ·have d2 : decide ((fm k).hi < aS) = true := decide_eq_true g2
       have HN := acD (cO (i := ⟨(k : Int), a, b, c, aS⟩) (j := 3) abo abC)
       clear dM cg hat
       go_wp2_with (first | (go_at_call 71; with_reducible refine (HI _).mono ?_; rintro e w' ⟨rfl, rfl⟩) | (go_at_call 72; with_reducible refine (HF _).mono ?_; rintro e w' ⟨rfl, rfl⟩))
       refine az abp abp ?_
       repeat (go_big_quiet_step (fail))
       refine wpQuiet_nil ?_
       rintro _ ⟨y, rfl⟩
       go_wp2_with (go_at_call 72; with_reducible refine (HF _).mono ?_; rintro e w' ⟨rfl, rfl⟩)
       go_ret
       exact ⟨bC HN.out.symm, (gu.out.ext y).aF⟩
      ·have d2 : decide ((fm k).hi < aS) = false := decide_eq_false abo
       have HY := acD (show jx (fm k) ⟨(k : Int), a, b, c, aS⟩ 3 from ⟨by rw [dM, hat]; omega, by rw [cg, hat]; omega⟩)
       clear dM cg hat
       go_wp2_with (first | (go_at_call 71; with_reducible refine (HI _).mono ?_; rintro e w' ⟨rfl, rfl⟩) | (go_at_call 72; with_reducible refine (HF _).mono ?_; rintro e w' ⟨rfl, rfl⟩))
       refine az abp abp ?_
       repeat (go_big_quiet_step (fail))
       refine wpQuiet_nil ?_
       rintro _ ⟨y, rfl⟩
       go_wp2_with (go_at_call 72; with_reducible refine (HF _).mono ?_; rintro e w' ⟨rfl, rfl⟩)
       go_roundw
       case rel => exact ⟨3 + 1, by omega, by go_num, fun m hm => by
        rcases Nat.lt_or_ge m 3 with q | q
        ·exact HO.out m q
        ·obtain rfl : m = 3 := by omega
         exact HY.out, gu.out.ext y⟩
       case measure => simp [intOf]
    ·have dh : decide (0 ≤ X) = false := decide_eq_false hh
     have dM : fy (fm k) 3 = 0 := by unfold fy; rw [hX]; simp [hh]
     have cg : dQ (fm k) 3 = 0 := by unfold dQ; rw [hX]; simp [hh]
     have hat : aZ.at_ ⟨(k : Int), a, b, c, aS⟩ 3 = aS := rfl
     rcases fC aS 0 with g1 | g1
     ·have d1 : decide (aS < 0) = true := decide_eq_true g1
      have HN := acD (cO (i := ⟨(k : Int), a, b, c, aS⟩) (j := 3) abo abB)
      clear dM cg hat
      go_wp2_with (first | (go_at_call 71; with_reducible refine (HI _).mono ?_; rintro e w' ⟨rfl, rfl⟩) | (go_at_call 72; with_reducible refine (HF _).mono ?_; rintro e w' ⟨rfl, rfl⟩))
      go_ret
      exact ⟨bC HN.out.symm, gu.out.aF⟩
     ·have d1 : decide (aS < 0) = false := decide_eq_false abo
      rcases fC 0 aS with g2 | g2
      ·have d2 : decide (0 < aS) = true := decide_eq_true g2
       have HN := acD (cO (i := ⟨(k : Int), a, b, c, aS⟩) (j := 3) abo abC)
       clear dM cg hat
       go_wp2_with (first | (go_at_call 71; with_reducible refine (HI _).mono ?_; rintro e w' ⟨rfl, rfl⟩) | (go_at_call 72; with_reducible refine (HF _).mono ?_; rintro e w' ⟨rfl, rfl⟩))
       go_ret
       exact ⟨bC HN.out.symm, gu.out.aF⟩
      ·have d2 : decide (0 < aS) = false := decide_eq_false abo
       have HY := acD (show jx (fm k) ⟨(k : Int), a, b, c, aS⟩ 3 from ⟨by rw [dM, hat]; omega, by rw [cg, hat]; omega⟩)
       clear dM cg hat
       go_wp2_with (first | (go_at_call 71; with_reducible refine (HI _).mono ?_; rintro e w' ⟨rfl, rfl⟩) | (go_at_call 72; with_reducible refine (HF _).mono ?_; rintro e w' ⟨rfl, rfl⟩))
       go_roundw
       case rel => exact ⟨3 + 1, by omega, by go_num, fun m hm => by
        rcases Nat.lt_or_ge m 3 with q | q
        ·exact HO.out m q
        ·obtain rfl : m = 3 := by omega
         exact HY.out, gu.out⟩
       case measure => simp [intOf]
  ·obtain rfl : j = 4 := by omega
   go_wp2_with fail
   go_ret
   exact ⟨bC (qI abA (by simpa using HO.out)).symm, HB.out⟩
theorem eM (i : aZ) (h0 : 0 ≤ i.op) (w : World) (T : iU w) :
  Calls Tryz.prog 32 #[.agg #[.int .u8 i.op, .int .i64 i.a, .int .i64 i.b, .int .i64 i.c, .int .i64 i.aS]] w fun e w' => e = .returned (.bool (aU i)) ∧ Below w.heap.size w w' := by
 by_cases h : i.op < 30
 ·exact yX i i.op.toNat abo abo w T
 ·exact Ct i h w
def pX (c : Int) : Nat := if c = 65 then 22 else if c = 66 then 18 else if c = 67 then 14 else 0
def pW (c : Int) : Nat := if c = 65 then 4 else if c = 66 then 4 else if c = 67 then 4 else 18
theorem gB (c : Int) (w : World) : Calls Tryz.prog 100 #[.int .u8 c] w fun e w' => e = .returned (.tuple #[.int .i64 (pX c : Int), .int .i64 (pW c : Int)]) ∧ w = w' := by
 refine (vK c w).mono fun e w' ⟨h1, h2⟩ => ⟨?_, h2⟩
 rw [h1]
 unfold pX pW
 by_cases q1 : c = 65
 ·simp [q1]
 ·by_cases q2 : c = 66
  ·simp [q2]
  ·by_cases q3 : c = 67
   ·simp [q3]
   ·simp [q1, q2, q3]
def letVal (i : aZ) (c : Int) : Int := if c = 65 then i.a else if c = 66 then i.b else if c = 67 then i.c else i.aS
def eI (i : aZ) (x : Int) (c : Int) : Int := bits .or .u32 x (bits .and .u32 (letVal i c % 4294967296) ((2 ^ min (pW c) 32 - 1) % 4294967296) * 2 ^ min (pX c) 32 % 4294967296)
def Ah (i : aZ) (l : List UInt8) : Int := l.foldl (fun x ch => eI i x (ch.toNat : Int)) (i.op * 67108864)
def jo (i : aZ) : Int × Int := if aU i = true then (Ah i (fm i.op.toNat).ops, 0) else (0, 3)
theorem Eg (i : aZ) (l : List UInt8) (j : Nat) (h : j < l.length) : Ah i (l.take (j + 1)) = eI i (Ah i (l.take j)) ((l[j]'h).toNat : Int) := by
 unfold Ah
 rw [List.take_add_one, List.foldl_append, List.getElem?_eq_getElem h]
 rfl
structure EL (w wr : World) (i : aZ) : Prop where
 sz : w.heap.size + 1 ≤ wr.heap.size
 aF : Below w.heap.size w wr
 i0 : wr.cell? ⟨w.heap.size, 0, none⟩ = some (.int .u8 i.op)
 i1 : wr.cell? ⟨w.heap.size, 1, none⟩ = some (.int .i64 i.a)
 i2 : wr.cell? ⟨w.heap.size, 2, none⟩ = some (.int .i64 i.b)
 i3 : wr.cell? ⟨w.heap.size, 3, none⟩ = some (.int .i64 i.c)
 i4 : wr.cell? ⟨w.heap.size, 4, none⟩ = some (.int .i64 i.aS)
theorem EL.ext {w wr : World} {i : aZ} (h : EL w wr i) (x : Ext wr) : EL w x.w i := by
 have hs := h.sz
 have b0 : w.heap.size < wr.heap.size := by omega
 exact ⟨by have := x.h.size; omega, Ext.below h.aF abo x, by rw [x.cell _ _ b0]; exact h.i0, by rw [x.cell _ _ b0]; exact h.i1, by rw [x.cell _ _ b0]; exact h.i2, by rw [x.cell _ _ b0]; exact h.i3, by rw [x.cell _ _ b0]; exact h.i4⟩
theorem EL.at_ {w wr : World} {i : aZ} (h : EL w wr i) (c : Int) : wr.cell? ⟨w.heap.size, gl c, none⟩ = some (.int .i64 (letVal i c)) := by
 unfold gl letVal
 by_cases q1 : c = 65
 ·simp [q1, h.i1]
 ·by_cases q2 : c = 66
  ·simp [q2, h.i2]
  ·by_cases q3 : c = 67
   ·simp [q3, h.i3]
   ·simp [q1, q2, q3, h.i4]
theorem Hu : ∀ k, k < 30 → (fm k).ops.length ≤ 3 := by decide
theorem Ag (i : aZ) (k : Nat) (hop : i.op = (k : Int)) (h : k < 30) (hv : aU i = true) (w : World) (T : iU w) :
  Calls Tryz.prog 58 #[.agg #[.int .u8 i.op, .int .i64 i.a, .int .i64 i.b, .int .i64 i.c, .int .i64 i.aS]] w fun e w' => e = .returned (.tuple #[.int .u32 (Ah i (fm i.op.toNat).ops), .int .i64 0]) ∧ Below w.heap.size w w' := by
 have hpos := T.pos
 have c1 := T.cells k h 1 _ rfl
 have HC : ∀ W : World, iU W → Calls Tryz.prog 32 #[.agg #[.int .u8 i.op, .int .i64 i.a, .int .i64 i.b, .int .i64 i.c, .int .i64 i.aS]] W fun e w' => e = .returned (.bool true) ∧ Below W.heap.size W w' := fun W hT => by
  have := eM i abo W hT
  rwa [hv] at this
 have HT := acD T
 have HL := acD (Hu k h)
 obtain ⟨op, a, b, c, aS⟩ := i
 simp only at hop HC ⊢
 subst hop
 have Vo := acD HC
 clear HC T hv
 go_enter Tryz.func58, Tryz.ntmps58
 go_wp2_with (go_at_call 32; refine (Calls.ext (Vo.out _ (HT.out.below ((Below.refl _ _).alloc (Nat.le_refl _) _)))).mono ?_; rintro e w' ⟨rfl, y, rfl⟩)
 go_loopw [5, 6, 7, 8, 23] (fun a5 a6 a7 a8 q wr => ∃ j : Nat, j ≤ (fm k).ops.length ∧ q = .int .i64 (j : Int) ∧ a5 = .int .u32 (Ah ⟨(k : Int), a, b, c, aS⟩ ((fm k).ops.take j)) ∧ EL w wr ⟨(k : Int), a, b, c, aS⟩) (fun _ _ _ _ q _ => (fm k).ops.length - (intOf q).toNat)
 case atStart =>
  refine ⟨0, by omega, rfl, ?_, ?_⟩
  ·rfl
  ·refine EL.ext (wr := w.alloc _) ⟨?_, ?_, ?_, ?_, ?_, ?_, ?_⟩ y
   all_goals first | (simp [go_sem]; done) | skip
   exact (Below.refl _ _).alloc (Nat.le_refl _) _
 case round =>
  obtain ⟨j, hj, rfl, rfl, hV⟩ := hrel
  have gu := acD hV
  obtain ⟨sz, aF, i0, i1, i2, i3, i4⟩ := hV
  have b0 : w.heap.size < wr.heap.size := by omega
  have hl3 := HL.out
  clear aF c1
  by_cases hlt : j < (fm k).ops.length
  ·obtain ⟨C, hC⟩ : ∃ C : Int, ((((fm k).ops[j]'hlt).toNat : Nat) : Int) = C := ⟨_, rfl⟩
   have z0 : ((({ data := (fm k).ops.toArray } : ByteArray)[j]'(by simpa [ByteArray.size] using hlt)).toNat : Int) = C := hC
   have HF : ∀ W : World, Calls Tryz.prog 72 #[.pointer (some ⟨w.heap.size, 0, none⟩), .int .u8 C] W fun e w' => e = .returned (.pointer (some ⟨w.heap.size, gl C, none⟩)) ∧ W = w' := fun w' => fu _ C w'
   have HP := gB C
   have hf := gu.out.at_ C
   have hsz : ByteArray.size { data := (fm k).ops.toArray } = (fm k).ops.length := by simp [ByteArray.size]
   have dl : decide ((j : Int) < ((fm k).ops.length : Int)) = true := by simpa using hlt
   obtain ⟨lo, hlo⟩ : ∃ lo, pX C = lo := ⟨_, rfl⟩
   obtain ⟨sz', hsz'⟩ : ∃ s, pW C = s := ⟨_, rfl⟩
   rw [hlo, hsz'] at HP
   go_wp2_with (go_at_call 100; with_reducible refine (HP _).mono ?_; rintro e w' ⟨rfl, rfl⟩)
   refine az abp abp ?_
   repeat (go_big_quiet_step (exact Calls.cV (HF _)))
   refine wpQuiet_nil ?_
   rintro _ ⟨y2, rfl⟩
   go_wp2_with fail
   go_roundw
   case rel =>
    refine ⟨j + 1, by omega, by go_num, ?_, gu.out.ext y2⟩
    rw [Eg _ _ _ hlt, hC]
    unfold eI
    rw [hlo, hsz']
   case measure =>
    simp [intOf]
    omega
  ·obtain rfl : j = (fm k).ops.length := by omega
   go_wp2_with fail
   go_ret2
   exact ⟨rfl, gu.out.aF⟩
theorem Ef (i : aZ) (h0 : 0 ≤ i.op) (hv : aU i = false) (w : World) (T : iU w) :
  Calls Tryz.prog 58 #[.agg #[.int .u8 i.op, .int .i64 i.a, .int .i64 i.b, .int .i64 i.c, .int .i64 i.aS]] w fun e w' => e = .returned (.tuple #[.int .u32 0, .int .i64 3]) ∧ Below w.heap.size w w' := by
 have HC : ∀ W : World, iU W → Calls Tryz.prog 32 #[.agg #[.int .u8 i.op, .int .i64 i.a, .int .i64 i.b, .int .i64 i.c, .int .i64 i.aS]] W fun e w' => e = .returned (.bool false) ∧ Below W.heap.size W w' := fun W hT => by
  have := eM i h0 W hT
  rwa [hv] at this
 have HT := acD T
 have Vo := acD HC
 clear HC T hv
 go_enter Tryz.func58, Tryz.ntmps58
 go_wp2_with (go_at_call 32; refine (Calls.ext (Vo.out _ (HT.out.below ((Below.refl _ _).alloc (Nat.le_refl _) _)))).mono ?_; rintro e w' ⟨rfl, y, rfl⟩)
 go_ret2
 refine ⟨rfl, Ext.below ((Below.refl _ _).alloc (Nat.le_refl _) _) aby y⟩
theorem sk (i : aZ) (h0 : 0 ≤ i.op) (w : World) (T : iU w) :
  Calls Tryz.prog 58 #[.agg #[.int .u8 i.op, .int .i64 i.a, .int .i64 i.b, .int .i64 i.c, .int .i64 i.aS]] w fun e w' => e = .returned (.tuple #[.int .u32 (jo i).1, .int .i64 (jo i).2]) ∧ Below w.heap.size w w' := by
 unfold jo
 by_cases hv : aU i = true
 ·rw [if_pos hv]
  have ho : i.op < 30 := by
   unfold aU at hv
   simp at hv
   exact hv.1
  exact Ag i i.op.toNat abo abo hv w T
 ·rw [if_neg hv]
  exact Ef i h0 (by simpa using hv) w T
theorem Ac : ∀ k, k < 30 → ∀ c ∈ (fm k).ops, c = 65 ∨ c = 66 ∨ c = 67 ∨ c = 73 := by decide
def rawVal (x c : Int) : Int := if c = 65 then wrap64 (bits .and .u32 (x / 4194304) 15) else if c = 66 then wrap64 (bits .and .u32 (x / 262144) 15) else if c = 67 then wrap64 (bits .and .u32 (x / 16384) 15) else if 131072 ≤ wrap64 (bits .and .u32 x 262143) then wrap64 (wrap64 (bits .and .u32 x 262143) - 262144) else wrap64 (bits .and .u32 x 262143)
def mN (i : aZ) (c v : Int) : aZ := if c = 65 then { i with a := v } else if c = 66 then { i with b := v } else if c = 67 then { i with c := v } else { i with aS := v }
def tU (x : Int) (l : List UInt8) : aZ := l.foldl (fun i ch => mN i (ch.toNat : Int) (rawVal x (ch.toNat : Int))) ⟨x / 67108864, 0, 0, 0, 0⟩
theorem jE (x : Int) (l : List UInt8) (j : Nat) (h : j < l.length) : tU x (l.take (j + 1)) = mN (tU x (l.take j)) ((l[j]'h).toNat : Int) (rawVal x ((l[j]'h).toNat : Int)) := by
 unfold tU
 rw [List.take_add_one, List.foldl_append, List.getElem?_eq_getElem h]
 rfl
theorem qD (x : Int) (l : List UInt8) : (tU x l).op = x / 67108864 := by
 have : ∀ (l : List UInt8) (i : aZ), (l.foldl (fun i ch => mN i (ch.toNat : Int) (rawVal x (ch.toNat : Int))) i).op = i.op := by
  intro l
  induction l with
  | nil => intro i; rfl
  | cons c l ih =>
   intro i
   rw [List.foldl_cons, ih]
   unfold mN
   split
   ·rfl
   ·split
    ·rfl
    ·split <;> rfl
 exact this l _
def iQ (x : Int) : aZ := tU x (fm (x / 67108864).toNat).ops
def cx (x : Int) : aZ × Int := if x / 67108864 < 30 ∧ jo (iQ x) = (x, 0) then (iQ x, 0) else (⟨0, 0, 0, 0, 0⟩, 3)
structure DL (w wr : World) (i : aZ) : Prop where
 sz : w.heap.size + 2 ≤ wr.heap.size
 aF : Below w.heap.size w wr
 r : wr.heap[w.heap.size]? = some (.cells #[.int .u8 0, .int .i64 0, .int .i64 0, .int .i64 0, .int .i64 0] 64 (0, 0))
 o : wr.heap[w.heap.size + 1]? = some (.cells #[.int .u8 i.op, .int .i64 i.a, .int .i64 i.b, .int .i64 i.c, .int .i64 i.aS] 64 (0, 0))
theorem DL.ext {w wr : World} {i : aZ} (h : DL w wr i) (x : Ext wr) : DL w x.w i := by
 have hs := h.sz
 exact ⟨by have := x.h.size; omega, Ext.below h.aF abo x, by rw [x.h.block _ abo]; exact h.r, by rw [x.h.block _ abo]; exact h.o⟩
theorem DL.cell {w wr : World} {i : aZ} (h : DL w wr i) (c : Int) : wr.cell? ⟨w.heap.size + 1, gl c, none⟩ = some (.int .i64 (letVal i c)) ∧ wr.frozen? ⟨w.heap.size + 1, gl c, none⟩ = false := by
 have ho := h.o
 unfold gl letVal
 refine ⟨?_, ?_⟩
 all_goals
  by_cases q1 : c = 65
  ·simp [q1, World.cell?, World.frozen?, ho]
  ·by_cases q2 : c = 66
   ·simp [q2, World.cell?, World.frozen?, ho]
   ·by_cases q3 : c = 67
    ·simp [q3, World.cell?, World.frozen?, ho]
    ·simp [q1, q2, q3, World.cell?, World.frozen?, ho]
theorem DL.put {w wr : World} {i : aZ} (h : DL w wr i) (c v : Int) : DL w (wr.setCell ⟨w.heap.size + 1, gl c, none⟩ (.int .i64 v)) (mN i c v) := by
 have hs := h.sz
 refine ⟨by simpa using hs, h.aF.setCell (by show _ ≤ _ + 1; omega) _, ?_, ?_⟩
 ·rw [Below.heap_setCell _ _ _ _ (by show _ ≠ _ + 1; omega)]; exact h.r
 ·rw [heap_setCell_same _ _ _ _ _ _ h.o]
  unfold gl mN
  by_cases q1 : c = 65
  ·simp [q1]
  ·by_cases q2 : c = 66
   ·simp [q2]
   ·by_cases q3 : c = 67
    ·simp [q3]
    ·simp [q1, q2, q3]
theorem yc (x : Int) (k : Nat) (h : k < 30) (hx : x / 67108864 = (k : Int)) (hx0 : 0 ≤ x) (hx1 : x < 4294967296) (w : World) (T : iU w) :
  Calls Tryz.prog 62 #[.int .u32 x] w fun e w' => e = .returned (.tuple #[(cx x).1.val, .int .i64 (cx x).2]) ∧ Below w.heap.size w w' := by
 have hpos := T.pos
 have c1 := T.cells k h 1 _ rfl
 have HT := acD T
 have HL := acD (Hu k h)
 have d : decide (30 ≤ (k : Int)) = false := by simp; omega
 have hk : (k : Int) % 256 = k := by omega
 clear T
 go_enter Tryz.func62, Tryz.ntmps62
 go_wp2_with fail
 go_loopw [6, 7, 8, 9, 27] (fun a6 a7 a8 a9 q wr => ∃ j : Nat, j ≤ (fm k).ops.length ∧ q = .int .i64 (j : Int) ∧ DL w wr (tU x ((fm k).ops.take j))) (fun _ _ _ _ q _ => (fm k).ops.length - (intOf q).toNat)
 case atStart =>
  refine ⟨0, by omega, rfl, ?_⟩
  refine ⟨?_, ?_, ?_, ?_⟩
  all_goals first | (simp [go_sem]; done) | skip
  ·exact ((Below.refl _ _).alloc (Nat.le_refl _) _).alloc aby _
  ·exact heap_alloc2_old _ _ _
  ·rw [heap_alloc2_new]
   simp [tU, hx]
 case round =>
  obtain ⟨j, hj, rfl, hV⟩ := hrel
  have gu := acD hV
  obtain ⟨sz, aF, rr, oo⟩ := hV
  have b0 : w.heap.size < wr.heap.size := by omega
  have b1 : w.heap.size + 1 < wr.heap.size := by omega
  have hl3 := HL.out
  clear aF c1
  by_cases hlt : j < (fm k).ops.length
  ·obtain ⟨i, hi⟩ : ∃ i, tU x ((fm k).ops.take j) = i := ⟨_, rfl⟩
   rw [hi] at oo
   have hcs := Ac k h ((fm k).ops[j]'hlt) (List.getElem_mem hlt)
   obtain ⟨C, hC⟩ : ∃ C : Int, ((((fm k).ops[j]'hlt).toNat : Nat) : Int) = C := ⟨_, rfl⟩
   have z0 : ((({ data := (fm k).ops.toArray } : ByteArray)[j]'(by simpa [ByteArray.size] using hlt)).toNat : Int) = C := hC
   have RU : C = 65 ∨ C = 66 ∨ C = 67 ∨ C = 73 := by
    rw [← hC]
    rcases hcs with q | q | q | q <;> rw [q] <;> decide
   have hsz : ByteArray.size { data := (fm k).ops.toArray } = (fm k).ops.length := by simp [ByteArray.size]
   have dl : decide ((j : Int) < ((fm k).ops.length : Int)) = true := by simpa using hlt
   clear hcs
   rcases RU with rfl | rfl | rfl | rfl
   ·have HF : ∀ W : World, Calls Tryz.prog 72 #[.pointer (some ⟨w.heap.size + 1, 0, none⟩), .int .u8 65] W fun e w' => e = .returned (.pointer (some ⟨w.heap.size + 1, 1, none⟩)) ∧ W = w' := fun w' => fu _ 65 w'
    have HP : ∀ W : World, Calls Tryz.prog 100 #[.int .u8 65] W fun e w' => e = .returned (.tuple #[.int .i64 22, .int .i64 4]) ∧ W = w' := fun W => gB 65 W
    have cc : wr.cell? ⟨w.heap.size + 1, 1, none⟩ = some (.int .i64 (letVal i 65)) := by have := (gu.out.cell 65).1; rw [hi] at this; exact this
    have cf : wr.frozen? ⟨w.heap.size + 1, 1, none⟩ = false := (gu.out.cell 65).2
    go_wp2_with (go_at_call 100; with_reducible refine (HP _).mono ?_; rintro e w' ⟨rfl, rfl⟩)
    refine az abp abp ?_
    repeat (go_big_quiet_step (fail))
    refine wpQuiet_nil ?_
    rintro _ ⟨y2, rfl⟩
    go_wp2_with (go_at_call 72; with_reducible refine (HF _).mono ?_; rintro e w' ⟨rfl, rfl⟩)
    go_roundw
    case rel =>
     refine ⟨j + 1, by omega, by go_num, ?_⟩
     rw [jE _ _ _ hlt, hC]
     have hr : rawVal x 65 = wrap64 (bits .and .u32 (x / 4194304) 15) := by unfold rawVal; rw [if_pos rfl]
     rw [hr]
     exact (gu.out.ext y2).put 65 _
    case measure =>
     simp [intOf]
     omega
   ·have HF : ∀ W : World, Calls Tryz.prog 72 #[.pointer (some ⟨w.heap.size + 1, 0, none⟩), .int .u8 66] W fun e w' => e = .returned (.pointer (some ⟨w.heap.size + 1, 2, none⟩)) ∧ W = w' := fun w' => fu _ 66 w'
    have HP : ∀ W : World, Calls Tryz.prog 100 #[.int .u8 66] W fun e w' => e = .returned (.tuple #[.int .i64 18, .int .i64 4]) ∧ W = w' := fun W => gB 66 W
    have cc : wr.cell? ⟨w.heap.size + 1, 2, none⟩ = some (.int .i64 (letVal i 66)) := by have := (gu.out.cell 66).1; rw [hi] at this; exact this
    have cf : wr.frozen? ⟨w.heap.size + 1, 2, none⟩ = false := (gu.out.cell 66).2
    go_wp2_with (go_at_call 100; with_reducible refine (HP _).mono ?_; rintro e w' ⟨rfl, rfl⟩)
    refine az abp abp ?_
    repeat (go_big_quiet_step (fail))
    refine wpQuiet_nil ?_
    rintro _ ⟨y2, rfl⟩
    go_wp2_with (go_at_call 72; with_reducible refine (HF _).mono ?_; rintro e w' ⟨rfl, rfl⟩)
    go_roundw
    case rel =>
     refine ⟨j + 1, by omega, by go_num, ?_⟩
     rw [jE _ _ _ hlt, hC]
     have hr : rawVal x 66 = wrap64 (bits .and .u32 (x / 262144) 15) := by unfold rawVal; rw [if_neg abr, if_pos rfl]
     rw [hr]
     exact (gu.out.ext y2).put 66 _
    case measure =>
     simp [intOf]
     omega
   ·have HF : ∀ W : World, Calls Tryz.prog 72 #[.pointer (some ⟨w.heap.size + 1, 0, none⟩), .int .u8 67] W fun e w' => e = .returned (.pointer (some ⟨w.heap.size + 1, 3, none⟩)) ∧ W = w' := fun w' => fu _ 67 w'
    have HP : ∀ W : World, Calls Tryz.prog 100 #[.int .u8 67] W fun e w' => e = .returned (.tuple #[.int .i64 14, .int .i64 4]) ∧ W = w' := fun W => gB 67 W
    have cc : wr.cell? ⟨w.heap.size + 1, 3, none⟩ = some (.int .i64 (letVal i 67)) := by have := (gu.out.cell 67).1; rw [hi] at this; exact this
    have cf : wr.frozen? ⟨w.heap.size + 1, 3, none⟩ = false := (gu.out.cell 67).2
    go_wp2_with (go_at_call 100; with_reducible refine (HP _).mono ?_; rintro e w' ⟨rfl, rfl⟩)
    refine az abp abp ?_
    repeat (go_big_quiet_step (fail))
    refine wpQuiet_nil ?_
    rintro _ ⟨y2, rfl⟩
    go_wp2_with (go_at_call 72; with_reducible refine (HF _).mono ?_; rintro e w' ⟨rfl, rfl⟩)
    go_roundw
    case rel =>
     refine ⟨j + 1, by omega, by go_num, ?_⟩
     rw [jE _ _ _ hlt, hC]
     have hr : rawVal x 67 = wrap64 (bits .and .u32 (x / 16384) 15) := by unfold rawVal; rw [if_neg abr, if_neg abr, if_pos rfl]
     rw [hr]
     exact (gu.out.ext y2).put 67 _
    case measure =>
     simp [intOf]
     omega
   ·have HF : ∀ W : World, Calls Tryz.prog 72 #[.pointer (some ⟨w.heap.size + 1, 0, none⟩), .int .u8 73] W fun e w' => e = .returned (.pointer (some ⟨w.heap.size + 1, 4, none⟩)) ∧ W = w' := fun w' => fu _ 73 w'
    have HP : ∀ W : World, Calls Tryz.prog 100 #[.int .u8 73] W fun e w' => e = .returned (.tuple #[.int .i64 0, .int .i64 18]) ∧ W = w' := fun W => gB 73 W
    have cc : wr.cell? ⟨w.heap.size + 1, 4, none⟩ = some (.int .i64 (letVal i 73)) := by have := (gu.out.cell 73).1; rw [hi] at this; exact this
    have cf : wr.frozen? ⟨w.heap.size + 1, 4, none⟩ = false := (gu.out.cell 73).2
    by_cases hg : 131072 ≤ wrap64 (bits .and .u32 x 262143)
    ·have dg : decide (131072 ≤ wrap64 (bits .and .u32 x 262143)) = true := decide_eq_true hg
     go_wp2_with (go_at_call 100; with_reducible refine (HP _).mono ?_; rintro e w' ⟨rfl, rfl⟩)
     refine az abp abp ?_
     repeat (go_big_quiet_step (fail))
     refine wpQuiet_nil ?_
     rintro _ ⟨y2, rfl⟩
     go_wp2_with (go_at_call 72; with_reducible refine (HF _).mono ?_; rintro e w' ⟨rfl, rfl⟩)
     go_roundw
     case rel =>
      refine ⟨j + 1, by omega, by go_num, ?_⟩
      rw [jE _ _ _ hlt, hC]
      have hr : rawVal x 73 = wrap64 (wrap64 (bits .and .u32 x 262143) - 262144) := by unfold rawVal; rw [if_neg abr, if_neg abr, if_neg abr, if_pos hg]
      rw [hr]
      exact (gu.out.ext y2).put 73 _
     case measure =>
      simp [intOf]
      omega
    ·have dg : decide (131072 ≤ wrap64 (bits .and .u32 x 262143)) = false := decide_eq_false hg
     go_wp2_with (go_at_call 100; with_reducible refine (HP _).mono ?_; rintro e w' ⟨rfl, rfl⟩)
     refine az abp abp ?_
     repeat (go_big_quiet_step (fail))
     refine wpQuiet_nil ?_
     rintro _ ⟨y2, rfl⟩
     go_wp2_with (go_at_call 72; with_reducible refine (HF _).mono ?_; rintro e w' ⟨rfl, rfl⟩)
     go_roundw
     case rel =>
      refine ⟨j + 1, by omega, by go_num, ?_⟩
      rw [jE _ _ _ hlt, hC]
      have hr : rawVal x 73 = wrap64 (bits .and .u32 x 262143) := by unfold rawVal; rw [if_neg abr, if_neg abr, if_neg abr, if_neg (Int.not_le.mpr hg)]
      rw [hr]
      exact (gu.out.ext y2).put 73 _
     case measure =>
      simp [intOf]
      omega
  ·obtain rfl : j = (fm k).ops.length := by omega
   rw [List.take_length] at oo
   obtain ⟨i, hi⟩ : ∃ i, tU x (fm k).ops = i := ⟨_, rfl⟩
   have YX : iQ x = i := by unfold iQ; rw [hx]; exact hi
   have hop : i.op = (k : Int) := by rw [← hi, qD, hx]
   rw [hi] at oo
   have ZR := acD (HT.out.below gu.out.aF)
   have HE := acD (sk i abo wr ZR.out)
   have Ts : x / 67108864 < 30 := by omega
   obtain ⟨E1, E2, hE⟩ : ∃ E1 E2, jo i = (E1, E2) := ⟨_, _, rfl⟩
   rw [hE] at HE
   have HD := acD (show cx x = if E1 = x ∧ E2 = 0 then (i, 0) else (⟨0, 0, 0, 0, 0⟩, 3) by
    unfold cx
    rw [YX, hE]
    simp [Ts])
   obtain ⟨op, a, b, c, aS⟩ := i
   simp only at HE oo
   have o0 : wr.cell? ⟨w.heap.size + 1, 0, none⟩ = some (.int .u8 op) := by simp [World.cell?, oo]
   have r0 : wr.cell? ⟨w.heap.size, 0, none⟩ = some (.int .u8 0) := by simp [World.cell?, rr]
   have rf0 : wr.frozen? ⟨w.heap.size, 0, none⟩ = false := by simp [World.frozen?, rr]
   have o1 : wr.cell? ⟨w.heap.size + 1, 1, none⟩ = some (.int .i64 a) := by simp [World.cell?, oo]
   have r1 : wr.cell? ⟨w.heap.size, 1, none⟩ = some (.int .i64 0) := by simp [World.cell?, rr]
   have rf1 : wr.frozen? ⟨w.heap.size, 1, none⟩ = false := by simp [World.frozen?, rr]
   have o2 : wr.cell? ⟨w.heap.size + 1, 2, none⟩ = some (.int .i64 b) := by simp [World.cell?, oo]
   have r2 : wr.cell? ⟨w.heap.size, 2, none⟩ = some (.int .i64 0) := by simp [World.cell?, rr]
   have rf2 : wr.frozen? ⟨w.heap.size, 2, none⟩ = false := by simp [World.frozen?, rr]
   have o3 : wr.cell? ⟨w.heap.size + 1, 3, none⟩ = some (.int .i64 c) := by simp [World.cell?, oo]
   have r3 : wr.cell? ⟨w.heap.size, 3, none⟩ = some (.int .i64 0) := by simp [World.cell?, rr]
   have rf3 : wr.frozen? ⟨w.heap.size, 3, none⟩ = false := by simp [World.frozen?, rr]
   have o4 : wr.cell? ⟨w.heap.size + 1, 4, none⟩ = some (.int .i64 aS) := by simp [World.cell?, oo]
   have r4 : wr.cell? ⟨w.heap.size, 4, none⟩ = some (.int .i64 0) := by simp [World.cell?, rr]
   have rf4 : wr.frozen? ⟨w.heap.size, 4, none⟩ = false := by simp [World.frozen?, rr]
   go_wp2_with (go_at_call 58; refine (Calls.ext HE.out).mono ?_; rintro e w' ⟨rfl, y, rfl⟩)
   ·rename_i q1 q2
    have hne : ¬ (E1 = x ∧ E2 = 0) := by rintro ⟨p1, p2⟩; simp [p1] at q2
    refine bodyPost_ret (v := .tuple #[.agg #[.int .u8 0, .int .i64 0, .int .i64 0, .int .i64 0, .int .i64 0], .int .i64 3]) abZ rfl ⟨?_, ?_⟩
    ·rw [HD.out, if_neg hne]; rfl
    ·refine Below.setCell (Below.setCell (Below.setCell (Below.setCell (Below.setCell (Ext.below gu.out.aF abo y) ?_ _) ?_ _) ?_ _) ?_ _) ?_ _ <;> exact Nat.le_refl _
   ·rename_i q1 q2
    have hyes : E1 = x ∧ E2 = 0 := ⟨by simpa using q2, q1⟩
    refine bodyPost_ret (v := .tuple #[.agg #[.int .u8 op, .int .i64 a, .int .i64 b, .int .i64 c, .int .i64 aS], .int .i64 0]) abZ rfl ⟨?_, ?_⟩
    ·rw [HD.out, if_pos hyes]; rfl
    ·refine Below.setCell (Below.setCell (Below.setCell (Below.setCell (Below.setCell (Ext.below gu.out.aF abo y) ?_ _) ?_ _) ?_ _) ?_ _) ?_ _ <;> exact Nat.le_refl _
   ·rename_i q1
    have hne : ¬ (E1 = x ∧ E2 = 0) := by rintro ⟨p1, p2⟩; exact q1 p2
    refine bodyPost_ret (v := .tuple #[.agg #[.int .u8 0, .int .i64 0, .int .i64 0, .int .i64 0, .int .i64 0], .int .i64 3]) abZ rfl ⟨?_, ?_⟩
    ·rw [HD.out, if_neg hne]; rfl
    ·refine Below.setCell (Below.setCell (Below.setCell (Below.setCell (Below.setCell (Ext.below gu.out.aF abo y) ?_ _) ?_ _) ?_ _) ?_ _) ?_ _ <;> exact Nat.le_refl _
theorem Aq (x : Int) (h : ¬ x / 67108864 < 30) (hx0 : 0 ≤ x) (hx1 : x < 4294967296) (w : World) :
  Calls Tryz.prog 62 #[.int .u32 x] w fun e w' => e = .returned (.tuple #[(cx x).1.val, .int .i64 (cx x).2]) ∧ Below w.heap.size w w' := by
 obtain ⟨q, hq⟩ : ∃ q, x / 67108864 = q := ⟨_, rfl⟩
 have HD := acD (show cx x = (⟨0, 0, 0, 0, 0⟩, 3) by unfold cx; simp [h])
 have d : decide (30 ≤ q) = true := by simp; omega
 have hk : q % 256 = q := by omega
 go_enter Tryz.func62, Tryz.ntmps62
 go_wp2_with fail
 refine bodyPost_ret (v := .tuple #[.agg #[.int .u8 0, .int .i64 0, .int .i64 0, .int .i64 0, .int .i64 0], .int .i64 3]) abZ rfl ⟨?_, ?_⟩
 ·rw [HD.out]; rfl
 ·(repeat (first | exact Below.refl _ _ | refine Below.setCell ?_ ?_ _ | refine Below.alloc ?_ ?_ _)) <;> (first | (simp; done) | (simp; omega) | omega)
theorem ng (x : Int) (hx0 : 0 ≤ x) (hx1 : x < 4294967296) (w : World) (T : iU w) :
  Calls Tryz.prog 62 #[.int .u32 x] w fun e w' => e = .returned (.tuple #[(cx x).1.val, .int .i64 (cx x).2]) ∧ Below w.heap.size w w' := by
 by_cases h : x / 67108864 < 30
 ·exact yc x (x / 67108864).toNat abo abo hx0 hx1 w T
 ·exact Aq x h hx0 hx1 w
end
end Go.Proofs.YtebklpnkcicpjaaGreatDoor
