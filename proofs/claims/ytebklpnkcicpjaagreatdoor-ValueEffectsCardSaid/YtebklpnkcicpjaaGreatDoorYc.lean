/-
  What is proved here: parts bCa.
-/
import Derived.Test.YtebklpnkcicpjaaGreatDoorYa
import Derived.Test.YtebklpnkcicpjaaGreatDoorYb
import Derived.Lib.Bytealg
import Derived.Lib.Strings
import Derived.MapViews
namespace Go.Proofs.YtebklpnkcicpjaaGreatDoor
set_option linter.unusedVariables false
set_option linter.unusedSimpArgs false
set_option maxRecDepth 100000
set_option maxHeartbeats 8000000
section
open Go.RowKit
open Go.RowKit
open Go.RowKit
open Go.RowKit
open Go.RowKit
open Go.RowKit
def eA (op : Int) : Bool := decide (op = 22) || decide (op = 23) || decide (op = 24)
theorem lW (op : Int) (w : World) : Calls Tryz.prog 97 #[.int .u8 op] w fun e w' => e = .returned (.bool (eA op)) ∧ w = w' := by
 go_enter Tryz.func97, Tryz.ntmps97
 go_wp2
 all_goals
  go_ret
  refine ⟨aU ?_, rfl⟩
  unfold eA
  first | (simp_all; done) | trivial
theorem sA (c : Int) (w : World) : Calls Tryz.prog 100 #[.int .u8 c] w fun e w' => e = .returned (.tuple #[.int .i64 (if c = 65 then 22 else if c = 66 then 18 else if c = 67 then 14 else 0), .int .i64 (if c = 65 then 4 else if c = 66 then 4 else if c = 67 then 4 else 18)]) ∧ w = w' := by
 go_enter Tryz.func100, Tryz.ntmps100
 go_wp2
 all_goals
  go_ret2
  refine ⟨?_, rfl⟩
  first | (simp_all; done) | trivial
def fl (c : Int) : Nat := if c = 65 then 1 else if c = 66 then 2 else if c = 67 then 3 else 4
theorem eB (b : Nat) (c : Int) (w : World) : Calls Tryz.prog 72 #[.pointer (some ⟨b, 0, none⟩), .int .u8 c] w fun e w' => e = .returned (.pointer (some ⟨b, fl c, none⟩)) ∧ w = w' := by
 go_enter Tryz.func72, Tryz.ntmps72
 go_wp2
 all_goals
  go_ret
  refine ⟨?_, rfl⟩
  unfold fl
  first | (simp_all; done) | trivial
structure bB where
 op : Int
 a : Int
 b : Int
 c : Int
 aR : Int
deriving Inhabited, DecidableEq
def bB.val (i : bB) : Value := .agg #[.int .u8 i.op, .int .i64 i.a, .int .i64 i.b, .int .i64 i.c, .int .i64 i.aR]
def bB.cells (i : bB) : List Value := [.int .u8 i.op, .int .i64 i.a, .int .i64 i.b, .int .i64 i.c, .int .i64 i.aR]
theorem oD (i : bB) (at_ : Int) (w : World) (h1 : IntKind.i64.wrap (at_ + 1) = at_ + 1) (h2 : IntKind.i64.wrap (at_ + 1 + i.aR) = at_ + 1 + i.aR) : Calls Tryz.prog 98 #[.agg #[.int .u8 i.op, .int .i64 i.a, .int .i64 i.b, .int .i64 i.c, .int .i64 i.aR], .int .i64 at_] w fun e w' => e = .returned (.tuple #[.int .i64 (if eA i.op = true then at_ + 1 + i.aR else 0), .bool (eA i.op)]) ∧ Below w.heap.size w w' := by
 have HI := lW i.op
 go_enter Tryz.func98, Tryz.ntmps98
 rcases hb : eA i.op
 all_goals
  rw [hb] at HI
  go_wp2_with (go_at_call 97; refine (HI _).mono ?_; rintro e w' ⟨rfl, rfl⟩)
 all_goals
  go_ret2
  refine ⟨?_, ?_⟩
  ·simp_all
  exact UW
theorem CD (s : ByteArray) (c : Int) (w : World) :
  Calls Tryz.prog 101 #[.string s, .int .u8 c] w fun e w' => e = .returned (.int .i64 (Lib.indexByte s.data.toList c.toNat.toUInt8)) ∧ w = w' := by
 go_enter Tryz.func101, Tryz.ntmps101
 go_wp2
 rw [run_callFunc_extern Tryz.func116 TY TY TY (e := Extern.BytealgIndexByte.indexByte) TY, Lib.run_indexByteString]
 simp only [Result.andThen]
 rw [Oper.upon_value]
 go_wp2
 go_ret
 exact ⟨rfl, rfl⟩
theorem om (s : ByteArray) (c : Int) (w : World) :
  Calls Tryz.prog 71 #[.string s, .int .u8 c] w fun e w' => e = .returned (.int .i64 (Lib.indexByte s.data.toList c.toNat.toUInt8)) ∧ w = w' := by
 go_enter Tryz.func71, Tryz.ntmps71
 go_wp2_with (go_at_call 101; refine (CD _ _ _).mono ?_; rintro e w' ⟨rfl, rfl⟩)
 go_ret
 exact ⟨rfl, rfl⟩
structure Fm where
 mn : List UInt8
 ops : List UInt8
 rd : List UInt8
 wr : Bool
 lo : Int
 hi : Int
deriving Inhabited
def Fm.cells (f : Fm) : List Value := [.string ⟨f.mn.toArray⟩, .string ⟨f.ops.toArray⟩, .string ⟨f.rd.toArray⟩, .bool f.wr, .int .i64 f.lo, .int .i64 f.hi]
def Fm.data {H : Type} (f : Fm) : DataW H := .agg [.lit (.string f.mn), .lit (.string f.ops), .lit (.string f.rd), .lit (.bool f.wr), .lit (.int .i64 f.lo), .lit (.int .i64 f.hi)]
theorem w8 {H : Type} {enc : TypeId × Value → H} {w : World} {base : Nat} {sp : Nat → Bool} {held : Bool} {fuel : Nat} {cs : List Value} {f : Fm} {p : List MemPlace}
  (h : DataW.trod enc Tryz.prog w base sp held fuel 140 cs = some (f.data, p)) : cs = f.cells := by
 cases fuel with
 | zero => simp [DataW.trod] at h
 | succ fuel =>
  rw [DataW.trod_step] at h
  unfold DataW.trodStep at h
  simp only [Tryz.underlying140] at h
  have Ik : Tryz.prog.cellsOf 140 = 6 := by kernel_rfl
  have c9 : Tryz.prog.cellsOf 9 = 1 := by kernel_rfl
  have c4 : Tryz.prog.cellsOf 4 = 1 := by kernel_rfl
  have c3 : Tryz.prog.cellsOf 3 = 1 := by kernel_rfl
  rw [Ik] at h
  split at h
  ·rename_i hl
   obtain ⟨v0, v1, v2, v3, v4, v5, rfl⟩ : ∃ v0 v1 v2 v3 v4 v5, cs = [v0, v1, v2, v3, v4, v5] := by
    match cs, hl with
    | [a, b, c, d, e, g], _ => exact ⟨a, b, c, d, e, g, rfl⟩
   simp only [c9, c4, c3, U9, List.drop_zero, U8, List.take_zero, Option.map_eq_some_iff, List.mapM_cons, List.mapM_nil, Option.bind_eq_bind, Option.bind_eq_some_iff, Option.pure_def, Option.some.injEq] at h
   obtain ⟨xs, ⟨y0, h0, _, ⟨y1, h1, _, ⟨y2, h2, _, ⟨y3, h3, _, ⟨y4, h4, _, ⟨y5, h5, _, rfl, rfl⟩, rfl⟩, rfl⟩, rfl⟩, rfl⟩, rfl⟩, hx⟩ := h
   obtain ⟨s0, e0, rfl, _⟩ := DataW.trod_string Tryz.underlying9 h0
   obtain ⟨s1, e1, rfl, _⟩ := DataW.trod_string Tryz.underlying9 h1
   obtain ⟨s2, e2, rfl, _⟩ := DataW.trod_string Tryz.underlying9 h2
   obtain ⟨s3, e3, rfl⟩ := DataW.trod_bool Tryz.underlying4 h3
   obtain ⟨s4, e4, rfl, _⟩ := DataW.trod_int Tryz.underlying3 h4
   obtain ⟨s5, e5, rfl, _⟩ := DataW.trod_int Tryz.underlying3 h5
   simp only [List.cons.injEq, and_true] at e0 e1 e2 e3 e4 e5
   subst e0 e1 e2 e3 e4 e5
   obtain ⟨f0, f1, f2, f3, f4, f5⟩ := f
   obtain ⟨⟨a0⟩⟩ := s0
   obtain ⟨⟨a1⟩⟩ := s1
   obtain ⟨⟨a2⟩⟩ := s2
   simp [Fm.data] at hx
   obtain ⟨⟨rfl, rfl, rfl, rfl, rfl, rfl⟩, _⟩ := hx
   rfl
  ·cases h
def Fw : List Fm := [⟨[110, 111, 112], [], [], false, 0, 0⟩, ⟨[104, 97, 108, 116], [], [], false, 0, 0⟩, ⟨[97, 100, 100], [65, 66, 67], [66, 67], true, 0, 0⟩, ⟨[115, 117, 98], [65, 66, 67], [66, 67], true, 0, 0⟩, ⟨[109, 117, 108], [65, 66, 67], [66, 67], true, 0, 0⟩, ⟨[100, 105, 118], [65, 66, 67], [66, 67], true, 0, 0⟩, ⟨[109, 111, 100], [65, 66, 67], [66, 67], true, 0, 0⟩, ⟨[97, 110, 100], [65, 66, 67], [66, 67], true, 0, 0⟩, ⟨[111, 114], [65, 66, 67], [66, 67], true, 0, 0⟩, ⟨[120, 111, 114], [65, 66, 67], [66, 67], true, 0, 0⟩, ⟨[115, 104, 108], [65, 66, 67], [66, 67], true, 0, 0⟩, ⟨[115, 104, 114], [65, 66, 67], [66, 67], true, 0, 0⟩, ⟨[101, 113], [65, 66, 67], [66, 67], true, 0, 0⟩, ⟨[108, 116], [65, 66, 67], [66, 67], true, 0, 0⟩, ⟨[108, 105], [65, 73], [], true, (-131072), 131071⟩, ⟨[97, 100, 100, 105], [65, 66, 73], [66], true, (-131072), 131071⟩, ⟨[115, 104, 108, 105], [65, 66, 73], [66], true, 0, 31⟩, ⟨[111, 114, 105], [65, 66, 73], [66], true, 0, 16383⟩, ⟨[108, 100], [65, 66, 73], [66], true, (-131072), 131071⟩, ⟨[115, 116], [65, 66, 73], [65, 66], false, (-131072), 131071⟩, ⟨[108, 100, 115], [65, 66, 73], [66], true, (-131072), 131071⟩, ⟨[115, 116, 115], [65, 66, 73], [65, 66], false, (-131072), 131071⟩, ⟨[98, 101, 113, 122], [65, 73], [65], false, (-131072), 131071⟩, ⟨[98, 110, 101, 122], [65, 73], [65], false, (-131072), 131071⟩, ⟨[106, 109, 112], [73], [], false, (-131072), 131071⟩, ⟨[98, 111, 117, 110, 100], [65, 73], [65], false, 1, 131071⟩, ⟨[105, 110], [65, 73], [], true, 0, 7⟩, ⟨[111, 117, 116], [65, 73], [65], false, 0, 7⟩, ⟨[108, 111, 99, 107], [73], [], false, 0, 3⟩, ⟨[117, 110, 108, 111, 99, 107], [73], [], false, 0, 3⟩]
theorem CJ {H : Type} : (Rows.laid_ontime_isa_formats : DataW H) = .agg (Fw.map Fm.data) := by kernel_rfl
def fk : List Value := Fw.flatMap Fm.cells
theorem zZ {α β : Type} {g : α → Option β} {L : List α} {xs : List β} (h : L.mapM g = some xs) : xs.length = L.length ∧ ∀ i, i < L.length → ∃ a b, L[i]? = some a ∧ xs[i]? = some b ∧ g a = some b := by
 induction L generalizing xs with
 | nil => simp at h; subst h; exact ⟨rfl, fun i hi => by simp at hi⟩
 | cons a L ih =>
  rw [List.mapM_cons] at h
  simp only [bind, Option.bind_eq_some_iff, pure, Option.some.injEq] at h
  obtain ⟨y, hy, ys, hys, rfl⟩ := h
  obtain ⟨l1, l2⟩ := ih hys
  refine ⟨by simp [l1], fun i hi => ?_⟩
  cases i with
  | zero => exact ⟨a, y, rfl, rfl, hy⟩
  | succ i => simpa using l2 i UU
theorem rJ {α : Type} (c : Nat) : ∀ (rows : List (List α)) (cs : List α), cs.length = rows.length * c → (∀ i r, rows[i]? = some r → (cs.drop (i * c)).take c = r) → cs = rows.flatten
 | [], cs, hl, _ => by simp at hl; simp [hl]
 | r :: rows, cs, hl, h => by
  have h0 := h 0 r rfl
  simp only [Nat.zero_mul, List.drop_zero] at h0
  have hl' : cs.length = rows.length * c + c := by rw [hl, List.length_cons, Nat.succ_mul]
  have := rJ c rows (cs.drop c) (by rw [List.length_drop]; omega) (fun i r' hr => by
   have := h (i + 1) r' (by simpa using hr)
   rw [Nat.succ_mul, Nat.add_comm] at this
   rwa [List.drop_drop])
  rw [List.flatten_cons, ← this, ← h0, List.take_append_drop]
theorem qH {W : World} (h : laidMet Tryz.prog [("ontime/isa.formats", Rows.laid_ontime_isa_formats)] W) : W.var? Tryz.prog "ontime/isa.formats" = some fk.toArray := by
 obtain ⟨ps, ⟨g, t, cs, fuel, p, q, hg, ht, M6, hd, _, _⟩, _⟩ := h
 obtain rfl := Option.some.inj ((show Tryz.prog.globalNamed "ontime/isa.formats" = some 0 by kernel_rfl).symm.trans hg)
 obtain rfl := Option.some.inj ((show (Tryz.prog.globals[0]?).map (·.type) = some 141 by kernel_rfl).symm.trans ht)
 rw [M6]
 congr 1
 obtain ⟨l⟩ := cs
 cases fuel with
 | zero => simp [DataW.trod] at hd
 | succ fuel =>
  rw [DataW.trod_step] at hd
  unfold DataW.trodStep at hd
  have N1 : Tryz.prog.cellsOf 141 = 180 := by kernel_rfl
  have Ik : Tryz.prog.cellsOf 140 = 6 := by kernel_rfl
  simp only [Tryz.underlying141] at hd
  rw [N1, Ik] at hd
  split at hd
  ·rename_i hl
   rw [CJ] at hd
   simp only [Option.map_eq_some_iff, Prod.mk.injEq, DataW.agg.injEq] at hd
   obtain ⟨xs, hx, e1, e2⟩ := hd
   obtain ⟨l1, l2⟩ := zZ hx
   have hrow : ∀ i r, (Fw.map Fm.cells)[i]? = some r → (l.drop (i * 6)).take 6 = r := by
    intro i r hr
    rw [List.getElem?_map] at hr
    obtain ⟨f, hf, rfl⟩ := Option.map_eq_some_iff.mp hr
    have hi : i < 30 := by
     have := (List.getElem?_eq_some_iff.mp hf).1
     exact this
    obtain ⟨a, b, ha, hb, hab⟩ := l2 i UU
    rw [List.getElem?_range hi] at ha
    obtain rfl := Option.some.inj ha
    have hb' : (xs.map (·.1))[i]? = some b.1 := by rw [List.getElem?_map, hb]; rfl
    rw [e1, List.getElem?_map, hf] at hb'
    have hb2 : f.data = b.1 := Option.some.inj hb'
    obtain ⟨b1, b2⟩ := b
    simp only at hb2
    subst hb2
    exact w8 hab
   have := rJ 6 (Fw.map Fm.cells) l (by rw [show (Fw.map Fm.cells).length = 30 from rfl]; exact hl) hrow
   rw [this]
   rfl
  ·cases hd
theorem eK (a b : Int) : a < b ∨ b ≤ a := by omega
def fm (k : Nat) : Fm := Fw.getD k default
structure fM (w : World) : Prop where
 pos : 0 < w.heap.size
 cells : ∀ k, k < 30 → ∀ j v, (fm k).cells[j]? = some v → w.cell? ⟨0, k * 6 + j, none⟩ = some v
theorem fM.below {w w' : World} (h : fM w) (b : Below w.heap.size w w') : fM w' :=
 ⟨by have := b.size; have := h.pos; omega, fun k hk j v hv => by rw [b.cell (p := ⟨0, _, none⟩) h.pos]; exact h.cells k hk j v hv⟩
def o8 : List Nat := [65, 66, 67, 73]
def bB.at_ (i : bB) (k : Nat) : Int := [i.a, i.b, i.c, i.aR].getD k 0
def eC (f : Fm) (k : Nat) : Int := if 0 ≤ Lib.indexByte f.ops ((o8.getD k 0)).toUInt8 then (if k = 3 then f.lo else 0) else 0
def cY (f : Fm) (k : Nat) : Int := if 0 ≤ Lib.indexByte f.ops ((o8.getD k 0)).toUInt8 then (if k = 3 then f.hi else 15) else 0
def gZ (f : Fm) (i : bB) (k : Nat) : Prop := eC f k ≤ i.at_ k ∧ i.at_ k ≤ cY f k
instance (f : Fm) (i : bB) (k : Nat) : Decidable (gZ f i k) := by unfold gZ; infer_instance
def aL (i : bB) : Bool := decide (i.op < 30) && (decide (gZ (fm i.op.toNat) i 0) && decide (gZ (fm i.op.toNat) i 1) && decide (gZ (fm i.op.toNat) i 2) && decide (gZ (fm i.op.toNat) i 3))
theorem cz {i : bB} {j : Nat} (hj : j < 4) (h : ¬ gZ (fm i.op.toNat) i j) : aL i = false := by
 unfold aL
 obtain rfl | rfl | rfl | rfl : j = 0 ∨ j = 1 ∨ j = 2 ∨ j = 3 := by omega
 all_goals simp [h]
theorem oz {i : bB} (ho : i.op < 30) (h : ∀ j, j < 4 → gZ (fm i.op.toNat) i j) : aL i = true := by
 unfold aL
 simp [ho, h 0, h 1, h 2, h 3]
structure VL (w wr : World) (i : bB) (f : Fm) : Prop where
 sz : w.heap.size + 2 ≤ wr.heap.size
 aB : Below w.heap.size w wr
 i1 : wr.cell? ⟨w.heap.size, 1, none⟩ = some (.int .i64 i.a)
 i2 : wr.cell? ⟨w.heap.size, 2, none⟩ = some (.int .i64 i.b)
 i3 : wr.cell? ⟨w.heap.size, 3, none⟩ = some (.int .i64 i.c)
 i4 : wr.cell? ⟨w.heap.size, 4, none⟩ = some (.int .i64 i.aR)
 f1 : wr.cell? ⟨w.heap.size + 1, 1, none⟩ = some (.string ⟨f.ops.toArray⟩)
 f4 : wr.cell? ⟨w.heap.size + 1, 4, none⟩ = some (.int .i64 f.lo)
 f5 : wr.cell? ⟨w.heap.size + 1, 5, none⟩ = some (.int .i64 f.hi)
theorem VL.ext {w wr : World} {i : bB} {f : Fm} (h : VL w wr i f) (x : Ext wr) : VL w x.w i f := by
 have hs := h.sz
 have b0 : w.heap.size < wr.heap.size := by omega
 have b1 : w.heap.size + 1 < wr.heap.size := by omega
 exact ⟨by have := x.h.size; omega, Ext.below h.aB TX x, by rw [x.cell _ _ b0]; exact h.i1, by rw [x.cell _ _ b0]; exact h.i2, by rw [x.cell _ _ b0]; exact h.i3, by rw [x.cell _ _ b0]; exact h.i4, by rw [x.cell _ _ b1]; exact h.f1, by rw [x.cell _ _ b1]; exact h.f4, by rw [x.cell _ _ b1]; exact h.f5⟩
theorem yS (i : bB) (h : ¬ i.op < 30) (w : World) :
  Calls Tryz.prog 32 #[.agg #[.int .u8 i.op, .int .i64 i.a, .int .i64 i.b, .int .i64 i.c, .int .i64 i.aR]] w fun e w' => e = .returned (.bool (aL i)) ∧ Below w.heap.size w w' := by
 have d : decide (30 ≤ i.op) = true := by simp; omega
 have HV := UZ (show aL i = false by unfold aL; simp [h])
 go_enter Tryz.func32, Tryz.ntmps32
 go_wp2_with fail
 go_ret
 refine ⟨aU HV.out.symm, ?_⟩
 exact UW
theorem vP (i : bB) (k : Nat) (hop : i.op = (k : Int)) (h : k < 30) (w : World) (T : fM w) :
  Calls Tryz.prog 32 #[.agg #[.int .u8 i.op, .int .i64 i.a, .int .i64 i.b, .int .i64 i.c, .int .i64 i.aR]] w fun e w' => e = .returned (.bool (aL i)) ∧ Below w.heap.size w w' := by
 have d : decide (30 ≤ i.op) = false := by simp; omega
 have hpos := T.pos
 have hT := T.cells k h
 have c0 := hT 0 _ rfl
 have c1 := hT 1 _ rfl
 have c2 := hT 2 _ rfl
 have c3 := hT 3 _ rfl
 have c4 := hT 4 _ rfl
 have c5 := hT 5 _ rfl
 rw [Nat.add_zero] at c0
 obtain ⟨op, a, b, c, aR⟩ := i
 simp only at hop d ⊢
 subst hop
 clear hT T
 go_enter Tryz.func32, Tryz.ntmps32
 go_wp2_with fail
 go_loopw [4, 5, 6, 7, 8, 16] (fun a4 a5 a6 a7 a8 q wr => ∃ j : Nat, j ≤ 4 ∧ q = .int .i64 (j : Int) ∧ (∀ m, m < j → gZ (fm k) ⟨(k : Int), a, b, c, aR⟩ m) ∧ VL w wr ⟨(k : Int), a, b, c, aR⟩ (fm k)) (fun _ _ _ _ _ q _ => 4 - (intOf q).toNat)
 case atStart =>
  refine ⟨0, by omega, rfl, fun m hm => by omega, ?_⟩
  refine ⟨?_, ?_, ?_, ?_, ?_, ?_, ?_, ?_, ?_⟩
  all_goals first | (simp [go_sem]; done) | skip
  exact ((Below.refl _ _).alloc (Nat.le_refl _) _).alloc T4 _
 case round =>
  obtain ⟨j, hj, rfl, hok, hV⟩ := hrel
  have HO := UZ hok
  have fu := UZ hV
  obtain ⟨sz, aB, i1, i2, i3, i4, f1, f4, f5⟩ := hV
  have b0 : w.heap.size < wr.heap.size := by omega
  have b1 : w.heap.size + 1 < wr.heap.size := by omega
  have HB := UZ aB
  clear hok aB d c0 c1 c2 c3 c4 c5
  have z0 : ((({ data := #[65, 66, 67, 73] } : ByteArray)[0]'T1).toNat : Int) = 65 := rfl
  have z1 : ((({ data := #[65, 66, 67, 73] } : ByteArray)[1]'T1).toNat : Int) = 66 := rfl
  have z2 : ((({ data := #[65, 66, 67, 73] } : ByteArray)[2]'T1).toNat : Int) = 67 := rfl
  have z3 : ((({ data := #[65, 66, 67, 73] } : ByteArray)[3]'T1).toNat : Int) = 73 := rfl
  by_cases hlt : j < 4
  ·obtain ⟨X, hX⟩ : ∃ X, Lib.indexByte (fm k).ops ((o8.getD j 0)).toUInt8 = X := ⟨_, rfl⟩
   obtain rfl | rfl | rfl | rfl : j = 0 ∨ j = 1 ∨ j = 2 ∨ j = 3 := by omega
   ·have HI : ∀ w : World, Calls Tryz.prog 71 #[.string ⟨(fm k).ops.toArray⟩, .int .u8 65] w fun e w' => e = .returned (.int .i64 X) ∧ w = w' := fun w => by
     have := om ⟨(fm k).ops.toArray⟩ 65 w
     rw [show Lib.indexByte (⟨(fm k).ops.toArray⟩ : ByteArray).data.toList (65 : Int).toNat.toUInt8 = X from hX] at this
     exact this
    have HF : ∀ W : World, Calls Tryz.prog 72 #[.pointer (some ⟨(w).heap.size, 0, none⟩), .int .u8 65] W fun e w' => e = .returned (.pointer (some ⟨(w).heap.size, 1, none⟩)) ∧ W = w' := fun w' => eB _ 65 w'
    by_cases hh : 0 ≤ X
    ·have dh : decide (0 ≤ X) = true := decide_eq_true hh
     have cV : eC (fm k) 0 = 0 := by unfold eC; rw [hX]; simp [hh]
     have bS : cY (fm k) 0 = 15 := by unfold cY; rw [hX]; simp [hh]
     have hat : bB.at_ ⟨(k : Int), a, b, c, aR⟩ 0 = a := rfl
     rcases eK a 0 with g1 | g1
     ·have d1 : decide (a < 0) = true := decide_eq_true g1
      have HN := UZ (cz (i := ⟨(k : Int), a, b, c, aR⟩) (j := 0) TX Ua)
      clear cV bS hat
      go_wp2_with (first | (go_at_call 71; with_reducible refine (HI _).mono ?_; rintro e w' ⟨rfl, rfl⟩) | (go_at_call 72; with_reducible refine (HF _).mono ?_; rintro e w' ⟨rfl, rfl⟩))
      go_ret
      exact ⟨aU HN.out.symm, fu.out.aB⟩
     ·have d1 : decide (a < 0) = false := decide_eq_false TX
      rcases eK 15 a with g2 | g2
      ·have d2 : decide (15 < a) = true := decide_eq_true g2
       have HN := UZ (cz (i := ⟨(k : Int), a, b, c, aR⟩) (j := 0) TX Ub)
       clear cV bS hat
       go_wp2_with (first | (go_at_call 71; with_reducible refine (HI _).mono ?_; rintro e w' ⟨rfl, rfl⟩) | (go_at_call 72; with_reducible refine (HF _).mono ?_; rintro e w' ⟨rfl, rfl⟩))
       go_ret
       exact ⟨aU HN.out.symm, fu.out.aB⟩
      ·have d2 : decide (15 < a) = false := decide_eq_false TX
       have HY := UZ (show gZ (fm k) ⟨(k : Int), a, b, c, aR⟩ 0 from ⟨by rw [cV, hat]; omega, by rw [bS, hat]; omega⟩)
       clear cV bS hat
       go_wp2_with (first | (go_at_call 71; with_reducible refine (HI _).mono ?_; rintro e w' ⟨rfl, rfl⟩) | (go_at_call 72; with_reducible refine (HF _).mono ?_; rintro e w' ⟨rfl, rfl⟩))
       go_roundw
       case rel => exact ⟨0 + 1, by omega, by go_num, fun m hm => by
        rcases Nat.lt_or_ge m 0 with q | q
        ·exact HO.out m q
        ·obtain rfl : m = 0 := by omega
         exact HY.out, fu.out⟩
       case measure => simp [intOf]
    ·have dh : decide (0 ≤ X) = false := decide_eq_false hh
     have cV : eC (fm k) 0 = 0 := by unfold eC; rw [hX]; simp [hh]
     have bS : cY (fm k) 0 = 0 := by unfold cY; rw [hX]; simp [hh]
     have hat : bB.at_ ⟨(k : Int), a, b, c, aR⟩ 0 = a := rfl
     rcases eK a 0 with g1 | g1
     ·have d1 : decide (a < 0) = true := decide_eq_true g1
      have HN := UZ (cz (i := ⟨(k : Int), a, b, c, aR⟩) (j := 0) TX Ua)
      clear cV bS hat
      go_wp2_with (first | (go_at_call 71; with_reducible refine (HI _).mono ?_; rintro e w' ⟨rfl, rfl⟩) | (go_at_call 72; with_reducible refine (HF _).mono ?_; rintro e w' ⟨rfl, rfl⟩))
      go_ret
      exact ⟨aU HN.out.symm, fu.out.aB⟩
     ·have d1 : decide (a < 0) = false := decide_eq_false TX
      rcases eK 0 a with g2 | g2
      ·have d2 : decide (0 < a) = true := decide_eq_true g2
       have HN := UZ (cz (i := ⟨(k : Int), a, b, c, aR⟩) (j := 0) TX Ub)
       clear cV bS hat
       go_wp2_with (first | (go_at_call 71; with_reducible refine (HI _).mono ?_; rintro e w' ⟨rfl, rfl⟩) | (go_at_call 72; with_reducible refine (HF _).mono ?_; rintro e w' ⟨rfl, rfl⟩))
       go_ret
       exact ⟨aU HN.out.symm, fu.out.aB⟩
      ·have d2 : decide (0 < a) = false := decide_eq_false TX
       have HY := UZ (show gZ (fm k) ⟨(k : Int), a, b, c, aR⟩ 0 from ⟨by rw [cV, hat]; omega, by rw [bS, hat]; omega⟩)
       clear cV bS hat
       go_wp2_with (first | (go_at_call 71; with_reducible refine (HI _).mono ?_; rintro e w' ⟨rfl, rfl⟩) | (go_at_call 72; with_reducible refine (HF _).mono ?_; rintro e w' ⟨rfl, rfl⟩))
       go_roundw
       case rel => exact ⟨0 + 1, by omega, by go_num, fun m hm => by
        rcases Nat.lt_or_ge m 0 with q | q
        ·exact HO.out m q
        ·obtain rfl : m = 0 := by omega
         exact HY.out, fu.out⟩
       case measure => simp [intOf]
   ·have HI : ∀ w : World, Calls Tryz.prog 71 #[.string ⟨(fm k).ops.toArray⟩, .int .u8 66] w fun e w' => e = .returned (.int .i64 X) ∧ w = w' := fun w => by
     have := om ⟨(fm k).ops.toArray⟩ 66 w
     rw [show Lib.indexByte (⟨(fm k).ops.toArray⟩ : ByteArray).data.toList (66 : Int).toNat.toUInt8 = X from hX] at this
     exact this
    have HF : ∀ W : World, Calls Tryz.prog 72 #[.pointer (some ⟨(w).heap.size, 0, none⟩), .int .u8 66] W fun e w' => e = .returned (.pointer (some ⟨(w).heap.size, 2, none⟩)) ∧ W = w' := fun w' => eB _ 66 w'
    by_cases hh : 0 ≤ X
    ·have dh : decide (0 ≤ X) = true := decide_eq_true hh
     have cV : eC (fm k) 1 = 0 := by unfold eC; rw [hX]; simp [hh]
     have bS : cY (fm k) 1 = 15 := by unfold cY; rw [hX]; simp [hh]
     have hat : bB.at_ ⟨(k : Int), a, b, c, aR⟩ 1 = b := rfl
     rcases eK b 0 with g1 | g1
     ·have d1 : decide (b < 0) = true := decide_eq_true g1
      have HN := UZ (cz (i := ⟨(k : Int), a, b, c, aR⟩) (j := 1) TX Ua)
      clear cV bS hat
      go_wp2_with (first | (go_at_call 71; with_reducible refine (HI _).mono ?_; rintro e w' ⟨rfl, rfl⟩) | (go_at_call 72; with_reducible refine (HF _).mono ?_; rintro e w' ⟨rfl, rfl⟩))
      go_ret
      exact ⟨aU HN.out.symm, fu.out.aB⟩
     ·have d1 : decide (b < 0) = false := decide_eq_false TX
      rcases eK 15 b with g2 | g2
      ·have d2 : decide (15 < b) = true := decide_eq_true g2
       have HN := UZ (cz (i := ⟨(k : Int), a, b, c, aR⟩) (j := 1) TX Ub)
       clear cV bS hat
       go_wp2_with (first | (go_at_call 71; with_reducible refine (HI _).mono ?_; rintro e w' ⟨rfl, rfl⟩) | (go_at_call 72; with_reducible refine (HF _).mono ?_; rintro e w' ⟨rfl, rfl⟩))
       go_ret
       exact ⟨aU HN.out.symm, fu.out.aB⟩
      ·have d2 : decide (15 < b) = false := decide_eq_false TX
       have HY := UZ (show gZ (fm k) ⟨(k : Int), a, b, c, aR⟩ 1 from ⟨by rw [cV, hat]; omega, by rw [bS, hat]; omega⟩)
       clear cV bS hat
       go_wp2_with (first | (go_at_call 71; with_reducible refine (HI _).mono ?_; rintro e w' ⟨rfl, rfl⟩) | (go_at_call 72; with_reducible refine (HF _).mono ?_; rintro e w' ⟨rfl, rfl⟩))
       go_roundw
       case rel => exact ⟨1 + 1, by omega, by go_num, fun m hm => by
        rcases Nat.lt_or_ge m 1 with q | q
        ·exact HO.out m q
        ·obtain rfl : m = 1 := by omega
         exact HY.out, fu.out⟩
       case measure => simp [intOf]
    ·have dh : decide (0 ≤ X) = false := decide_eq_false hh
     have cV : eC (fm k) 1 = 0 := by unfold eC; rw [hX]; simp [hh]
     have bS : cY (fm k) 1 = 0 := by unfold cY; rw [hX]; simp [hh]
     have hat : bB.at_ ⟨(k : Int), a, b, c, aR⟩ 1 = b := rfl
     rcases eK b 0 with g1 | g1
     ·have d1 : decide (b < 0) = true := decide_eq_true g1
      have HN := UZ (cz (i := ⟨(k : Int), a, b, c, aR⟩) (j := 1) TX Ua)
      clear cV bS hat
      go_wp2_with (first | (go_at_call 71; with_reducible refine (HI _).mono ?_; rintro e w' ⟨rfl, rfl⟩) | (go_at_call 72; with_reducible refine (HF _).mono ?_; rintro e w' ⟨rfl, rfl⟩))
      go_ret
      exact ⟨aU HN.out.symm, fu.out.aB⟩
     ·have d1 : decide (b < 0) = false := decide_eq_false TX
      rcases eK 0 b with g2 | g2
      ·have d2 : decide (0 < b) = true := decide_eq_true g2
       have HN := UZ (cz (i := ⟨(k : Int), a, b, c, aR⟩) (j := 1) TX Ub)
       clear cV bS hat
       go_wp2_with (first | (go_at_call 71; with_reducible refine (HI _).mono ?_; rintro e w' ⟨rfl, rfl⟩) | (go_at_call 72; with_reducible refine (HF _).mono ?_; rintro e w' ⟨rfl, rfl⟩))
       go_ret
       exact ⟨aU HN.out.symm, fu.out.aB⟩
      ·have d2 : decide (0 < b) = false := decide_eq_false TX
       have HY := UZ (show gZ (fm k) ⟨(k : Int), a, b, c, aR⟩ 1 from ⟨by rw [cV, hat]; omega, by rw [bS, hat]; omega⟩)
       clear cV bS hat
       go_wp2_with (first | (go_at_call 71; with_reducible refine (HI _).mono ?_; rintro e w' ⟨rfl, rfl⟩) | (go_at_call 72; with_reducible refine (HF _).mono ?_; rintro e w' ⟨rfl, rfl⟩))
       go_roundw
       case rel => exact ⟨1 + 1, by omega, by go_num, fun m hm => by
        rcases Nat.lt_or_ge m 1 with q | q
        ·exact HO.out m q
        ·obtain rfl : m = 1 := by omega
         exact HY.out, fu.out⟩
       case measure => simp [intOf]
   ·have HI : ∀ w : World, Calls Tryz.prog 71 #[.string ⟨(fm k).ops.toArray⟩, .int .u8 67] w fun e w' => e = .returned (.int .i64 X) ∧ w = w' := fun w => by
     have := om ⟨(fm k).ops.toArray⟩ 67 w
     rw [show Lib.indexByte (⟨(fm k).ops.toArray⟩ : ByteArray).data.toList (67 : Int).toNat.toUInt8 = X from hX] at this
     exact this
    have HF : ∀ W : World, Calls Tryz.prog 72 #[.pointer (some ⟨(w).heap.size, 0, none⟩), .int .u8 67] W fun e w' => e = .returned (.pointer (some ⟨(w).heap.size, 3, none⟩)) ∧ W = w' := fun w' => eB _ 67 w'
    by_cases hh : 0 ≤ X
    ·have dh : decide (0 ≤ X) = true := decide_eq_true hh
     have cV : eC (fm k) 2 = 0 := by unfold eC; rw [hX]; simp [hh]
     have bS : cY (fm k) 2 = 15 := by unfold cY; rw [hX]; simp [hh]
     have hat : bB.at_ ⟨(k : Int), a, b, c, aR⟩ 2 = c := rfl
     rcases eK c 0 with g1 | g1
     ·have d1 : decide (c < 0) = true := decide_eq_true g1
      have HN := UZ (cz (i := ⟨(k : Int), a, b, c, aR⟩) (j := 2) TX Ua)
      clear cV bS hat
      go_wp2_with (first | (go_at_call 71; with_reducible refine (HI _).mono ?_; rintro e w' ⟨rfl, rfl⟩) | (go_at_call 72; with_reducible refine (HF _).mono ?_; rintro e w' ⟨rfl, rfl⟩))
      go_ret
      exact ⟨aU HN.out.symm, fu.out.aB⟩
     ·have d1 : decide (c < 0) = false := decide_eq_false TX
      rcases eK 15 c with g2 | g2
      ·have d2 : decide (15 < c) = true := decide_eq_true g2
       have HN := UZ (cz (i := ⟨(k : Int), a, b, c, aR⟩) (j := 2) TX Ub)
       clear cV bS hat
       go_wp2_with (first | (go_at_call 71; with_reducible refine (HI _).mono ?_; rintro e w' ⟨rfl, rfl⟩) | (go_at_call 72; with_reducible refine (HF _).mono ?_; rintro e w' ⟨rfl, rfl⟩))
       go_ret
       exact ⟨aU HN.out.symm, fu.out.aB⟩
      ·have d2 : decide (15 < c) = false := decide_eq_false TX
       have HY := UZ (show gZ (fm k) ⟨(k : Int), a, b, c, aR⟩ 2 from ⟨by rw [cV, hat]; omega, by rw [bS, hat]; omega⟩)
       clear cV bS hat
       go_wp2_with (first | (go_at_call 71; with_reducible refine (HI _).mono ?_; rintro e w' ⟨rfl, rfl⟩) | (go_at_call 72; with_reducible refine (HF _).mono ?_; rintro e w' ⟨rfl, rfl⟩))
       go_roundw
       case rel => exact ⟨2 + 1, by omega, by go_num, fun m hm => by
        rcases Nat.lt_or_ge m 2 with q | q
        ·exact HO.out m q
        ·obtain rfl : m = 2 := by omega
         exact HY.out, fu.out⟩
       case measure => simp [intOf]
    ·have dh : decide (0 ≤ X) = false := decide_eq_false hh
     have cV : eC (fm k) 2 = 0 := by unfold eC; rw [hX]; simp [hh]
     have bS : cY (fm k) 2 = 0 := by unfold cY; rw [hX]; simp [hh]
     have hat : bB.at_ ⟨(k : Int), a, b, c, aR⟩ 2 = c := rfl
     rcases eK c 0 with g1 | g1
     ·have d1 : decide (c < 0) = true := decide_eq_true g1
      have HN := UZ (cz (i := ⟨(k : Int), a, b, c, aR⟩) (j := 2) TX Ua)
      clear cV bS hat
      go_wp2_with (first | (go_at_call 71; with_reducible refine (HI _).mono ?_; rintro e w' ⟨rfl, rfl⟩) | (go_at_call 72; with_reducible refine (HF _).mono ?_; rintro e w' ⟨rfl, rfl⟩))
      go_ret
      exact ⟨aU HN.out.symm, fu.out.aB⟩
     ·have d1 : decide (c < 0) = false := decide_eq_false TX
      rcases eK 0 c with g2 | g2
      ·have d2 : decide (0 < c) = true := decide_eq_true g2
       have HN := UZ (cz (i := ⟨(k : Int), a, b, c, aR⟩) (j := 2) TX Ub)
       clear cV bS hat
       go_wp2_with (first | (go_at_call 71; with_reducible refine (HI _).mono ?_; rintro e w' ⟨rfl, rfl⟩) | (go_at_call 72; with_reducible refine (HF _).mono ?_; rintro e w' ⟨rfl, rfl⟩))
       go_ret
       exact ⟨aU HN.out.symm, fu.out.aB⟩
      ·have d2 : decide (0 < c) = false := decide_eq_false TX
       have HY := UZ (show gZ (fm k) ⟨(k : Int), a, b, c, aR⟩ 2 from ⟨by rw [cV, hat]; omega, by rw [bS, hat]; omega⟩)
       clear cV bS hat
       go_wp2_with (first | (go_at_call 71; with_reducible refine (HI _).mono ?_; rintro e w' ⟨rfl, rfl⟩) | (go_at_call 72; with_reducible refine (HF _).mono ?_; rintro e w' ⟨rfl, rfl⟩))
       go_roundw
       case rel => exact ⟨2 + 1, by omega, by go_num, fun m hm => by
        rcases Nat.lt_or_ge m 2 with q | q
        ·exact HO.out m q
        ·obtain rfl : m = 2 := by omega
         exact HY.out, fu.out⟩
       case measure => simp [intOf]
   ·have HI : ∀ w : World, Calls Tryz.prog 71 #[.string ⟨(fm k).ops.toArray⟩, .int .u8 73] w fun e w' => e = .returned (.int .i64 X) ∧ w = w' := fun w => by
     have := om ⟨(fm k).ops.toArray⟩ 73 w
     rw [show Lib.indexByte (⟨(fm k).ops.toArray⟩ : ByteArray).data.toList (73 : Int).toNat.toUInt8 = X from hX] at this
     exact this
    have HF : ∀ W : World, Calls Tryz.prog 72 #[.pointer (some ⟨(w).heap.size, 0, none⟩), .int .u8 73] W fun e w' => e = .returned (.pointer (some ⟨(w).heap.size, 4, none⟩)) ∧ W = w' := fun w' => eB _ 73 w'
    by_cases hh : 0 ≤ X
    ·have dh : decide (0 ≤ X) = true := decide_eq_true hh
     have cV : eC (fm k) 3 = (fm k).lo := by unfold eC; rw [hX]; simp [hh]
     have bS : cY (fm k) 3 = (fm k).hi := by unfold cY; rw [hX]; simp [hh]
     have hat : bB.at_ ⟨(k : Int), a, b, c, aR⟩ 3 = aR := rfl
     rcases eK aR (fm k).lo with g1 | g1
     ·have d1 : decide (aR < (fm k).lo) = true := decide_eq_true g1
      have HN := UZ (cz (i := ⟨(k : Int), a, b, c, aR⟩) (j := 3) TX Ua)
      clear cV bS hat
      go_wp2_with (first | (go_at_call 71; with_reducible refine (HI _).mono ?_; rintro e w' ⟨rfl, rfl⟩) | (go_at_call 72; with_reducible refine (HF _).mono ?_; rintro e w' ⟨rfl, rfl⟩))
      refine ay TY TY ?_
      repeat (go_big_quiet_step (fail))
      refine wpQuiet_nil ?_
      rintro _ ⟨y, rfl⟩
      go_wp2_with (go_at_call 72; with_reducible refine (HF _).mono ?_; rintro e w' ⟨rfl, rfl⟩)
      go_ret
      exact ⟨aU HN.out.symm, (fu.out.ext y).aB⟩
     ·have d1 : decide (aR < (fm k).lo) = false := decide_eq_false TX
      rcases eK (fm k).hi aR with g2 | g2
      ·have d2 : decide ((fm k).hi < aR) = true := decide_eq_true g2
       have HN := UZ (cz (i := ⟨(k : Int), a, b, c, aR⟩) (j := 3) TX Ub)
       clear cV bS hat
       go_wp2_with (first | (go_at_call 71; with_reducible refine (HI _).mono ?_; rintro e w' ⟨rfl, rfl⟩) | (go_at_call 72; with_reducible refine (HF _).mono ?_; rintro e w' ⟨rfl, rfl⟩))
       refine ay TY TY ?_
       repeat (go_big_quiet_step (fail))
       refine wpQuiet_nil ?_
       rintro _ ⟨y, rfl⟩
       go_wp2_with (go_at_call 72; with_reducible refine (HF _).mono ?_; rintro e w' ⟨rfl, rfl⟩)
       go_ret
       exact ⟨aU HN.out.symm, (fu.out.ext y).aB⟩
      ·have d2 : decide ((fm k).hi < aR) = false := decide_eq_false TX
       have HY := UZ (show gZ (fm k) ⟨(k : Int), a, b, c, aR⟩ 3 from ⟨by rw [cV, hat]; omega, by rw [bS, hat]; omega⟩)
       clear cV bS hat
       go_wp2_with (first | (go_at_call 71; with_reducible refine (HI _).mono ?_; rintro e w' ⟨rfl, rfl⟩) | (go_at_call 72; with_reducible refine (HF _).mono ?_; rintro e w' ⟨rfl, rfl⟩))
       refine ay TY TY ?_
       repeat (go_big_quiet_step (fail))
       refine wpQuiet_nil ?_
       rintro _ ⟨y, rfl⟩
       go_wp2_with (go_at_call 72; with_reducible refine (HF _).mono ?_; rintro e w' ⟨rfl, rfl⟩)
       go_roundw
       case rel => exact ⟨3 + 1, by omega, by go_num, fun m hm => by
        rcases Nat.lt_or_ge m 3 with q | q
        ·exact HO.out m q
        ·obtain rfl : m = 3 := by omega
         exact HY.out, fu.out.ext y⟩
       case measure => simp [intOf]
    ·have dh : decide (0 ≤ X) = false := decide_eq_false hh
     have cV : eC (fm k) 3 = 0 := by unfold eC; rw [hX]; simp [hh]
     have bS : cY (fm k) 3 = 0 := by unfold cY; rw [hX]; simp [hh]
     have hat : bB.at_ ⟨(k : Int), a, b, c, aR⟩ 3 = aR := rfl
     rcases eK aR 0 with g1 | g1
     ·have d1 : decide (aR < 0) = true := decide_eq_true g1
      have HN := UZ (cz (i := ⟨(k : Int), a, b, c, aR⟩) (j := 3) TX Ua)
      clear cV bS hat
      go_wp2_with (first | (go_at_call 71; with_reducible refine (HI _).mono ?_; rintro e w' ⟨rfl, rfl⟩) | (go_at_call 72; with_reducible refine (HF _).mono ?_; rintro e w' ⟨rfl, rfl⟩))
      go_ret
      exact ⟨aU HN.out.symm, fu.out.aB⟩
     ·have d1 : decide (aR < 0) = false := decide_eq_false TX
      rcases eK 0 aR with g2 | g2
      ·have d2 : decide (0 < aR) = true := decide_eq_true g2
       have HN := UZ (cz (i := ⟨(k : Int), a, b, c, aR⟩) (j := 3) TX Ub)
       clear cV bS hat
       go_wp2_with (first | (go_at_call 71; with_reducible refine (HI _).mono ?_; rintro e w' ⟨rfl, rfl⟩) | (go_at_call 72; with_reducible refine (HF _).mono ?_; rintro e w' ⟨rfl, rfl⟩))
       go_ret
       exact ⟨aU HN.out.symm, fu.out.aB⟩
      ·have d2 : decide (0 < aR) = false := decide_eq_false TX
       have HY := UZ (show gZ (fm k) ⟨(k : Int), a, b, c, aR⟩ 3 from ⟨by rw [cV, hat]; omega, by rw [bS, hat]; omega⟩)
       clear cV bS hat
       go_wp2_with (first | (go_at_call 71; with_reducible refine (HI _).mono ?_; rintro e w' ⟨rfl, rfl⟩) | (go_at_call 72; with_reducible refine (HF _).mono ?_; rintro e w' ⟨rfl, rfl⟩))
       go_roundw
       case rel => exact ⟨3 + 1, by omega, by go_num, fun m hm => by
        rcases Nat.lt_or_ge m 3 with q | q
        ·exact HO.out m q
        ·obtain rfl : m = 3 := by omega
         exact HY.out, fu.out⟩
       case measure => simp [intOf]
  ·obtain rfl : j = 4 := by omega
   go_wp2_with fail
   go_ret
   exact ⟨aU (oz T9 (by simpa using HO.out)).symm, HB.out⟩
theorem cG (i : bB) (h0 : 0 ≤ i.op) (w : World) (T : fM w) :
  Calls Tryz.prog 32 #[.agg #[.int .u8 i.op, .int .i64 i.a, .int .i64 i.b, .int .i64 i.c, .int .i64 i.aR]] w fun e w' => e = .returned (.bool (aL i)) ∧ Below w.heap.size w w' := by
 by_cases h : i.op < 30
 ·exact vP i i.op.toNat TX TX w T
 ·exact yS i h w
def nD (c : Int) : Nat := if c = 65 then 22 else if c = 66 then 18 else if c = 67 then 14 else 0
def nC (c : Int) : Nat := if c = 65 then 4 else if c = 66 then 4 else if c = 67 then 4 else 18
theorem fC (c : Int) (w : World) : Calls Tryz.prog 100 #[.int .u8 c] w fun e w' => e = .returned (.tuple #[.int .i64 (nD c : Int), .int .i64 (nC c : Int)]) ∧ w = w' := by
 refine (sA c w).mono fun e w' ⟨h1, h2⟩ => ⟨?_, h2⟩
 rw [h1]
 unfold nD nC
 by_cases q1 : c = 65
 ·simp [q1]
 ·by_cases q2 : c = 66
  ·simp [q2]
  ·by_cases q3 : c = 67
   ·simp [q3]
   ·simp [q1, q2, q3]
def letVal (i : bB) (c : Int) : Int := if c = 65 then i.a else if c = 66 then i.b else if c = 67 then i.c else i.aR
def dN (i : bB) (x : Int) (c : Int) : Int := bits .or .u32 x (bits .and .u32 (letVal i c % 4294967296) ((2 ^ min (nC c) 32 - 1) % 4294967296) * 2 ^ min (nD c) 32 % 4294967296)
def xj (i : bB) (l : List UInt8) : Int := l.foldl (fun x ch => dN i x (ch.toNat : Int)) (i.op * 67108864)
def jn (i : bB) : Int × Int := if aL i = true then (xj i (fm i.op.toNat).ops, 0) else (0, 3)
theorem Au (i : bB) (l : List UInt8) (j : Nat) (h : j < l.length) : xj i (l.take (j + 1)) = dN i (xj i (l.take j)) ((l[j]'h).toNat : Int) := by
 unfold xj
 rw [List.take_add_one, List.foldl_append, List.getElem?_eq_getElem h]
 rfl
structure EL (w wr : World) (i : bB) : Prop where
 sz : w.heap.size + 1 ≤ wr.heap.size
 aB : Below w.heap.size w wr
 i0 : wr.cell? ⟨w.heap.size, 0, none⟩ = some (.int .u8 i.op)
 i1 : wr.cell? ⟨w.heap.size, 1, none⟩ = some (.int .i64 i.a)
 i2 : wr.cell? ⟨w.heap.size, 2, none⟩ = some (.int .i64 i.b)
 i3 : wr.cell? ⟨w.heap.size, 3, none⟩ = some (.int .i64 i.c)
 i4 : wr.cell? ⟨w.heap.size, 4, none⟩ = some (.int .i64 i.aR)
theorem EL.ext {w wr : World} {i : bB} (h : EL w wr i) (x : Ext wr) : EL w x.w i := by
 have hs := h.sz
 have b0 : w.heap.size < wr.heap.size := by omega
 exact ⟨by have := x.h.size; omega, Ext.below h.aB TX x, by rw [x.cell _ _ b0]; exact h.i0, by rw [x.cell _ _ b0]; exact h.i1, by rw [x.cell _ _ b0]; exact h.i2, by rw [x.cell _ _ b0]; exact h.i3, by rw [x.cell _ _ b0]; exact h.i4⟩
theorem EL.at_ {w wr : World} {i : bB} (h : EL w wr i) (c : Int) : wr.cell? ⟨w.heap.size, fl c, none⟩ = some (.int .i64 (letVal i c)) := by
 unfold fl letVal
 by_cases q1 : c = 65
 ·simp [q1, h.i1]
 ·by_cases q2 : c = 66
  ·simp [q2, h.i2]
  ·by_cases q3 : c = 67
   ·simp [q3, h.i3]
   ·simp [q1, q2, q3, h.i4]
theorem De : ∀ k, k < 30 → (fm k).ops.length ≤ 3 := by decide
theorem xg (i : bB) (k : Nat) (hop : i.op = (k : Int)) (h : k < 30) (hv : aL i = true) (w : World) (T : fM w) :
  Calls Tryz.prog 58 #[.agg #[.int .u8 i.op, .int .i64 i.a, .int .i64 i.b, .int .i64 i.c, .int .i64 i.aR]] w fun e w' => e = .returned (.tuple #[.int .u32 (xj i (fm i.op.toNat).ops), .int .i64 0]) ∧ Below w.heap.size w w' := by
 have hpos := T.pos
 have c1 := T.cells k h 1 _ rfl
 have HC : ∀ W : World, fM W → Calls Tryz.prog 32 #[.agg #[.int .u8 i.op, .int .i64 i.a, .int .i64 i.b, .int .i64 i.c, .int .i64 i.aR]] W fun e w' => e = .returned (.bool true) ∧ Below W.heap.size W w' := fun W hT => by
  have := cG i TX W hT
  rwa [hv] at this
 have HT := UZ T
 have HL := UZ (De k h)
 obtain ⟨op, a, b, c, aR⟩ := i
 simp only at hop HC ⊢
 subst hop
 have Ow := UZ HC
 clear HC T hv
 go_enter Tryz.func58, Tryz.ntmps58
 go_wp2_with (go_at_call 32; refine (Calls.ext (Ow.out _ (HT.out.below ((Below.refl _ _).alloc (Nat.le_refl _) _)))).mono ?_; rintro e w' ⟨rfl, y, rfl⟩)
 go_loopw [5, 6, 7, 8, 23] (fun a5 a6 a7 a8 q wr => ∃ j : Nat, j ≤ (fm k).ops.length ∧ q = .int .i64 (j : Int) ∧ a5 = .int .u32 (xj ⟨(k : Int), a, b, c, aR⟩ ((fm k).ops.take j)) ∧ EL w wr ⟨(k : Int), a, b, c, aR⟩) (fun _ _ _ _ q _ => (fm k).ops.length - (intOf q).toNat)
 case atStart =>
  refine ⟨0, by omega, rfl, ?_, ?_⟩
  ·rfl
  ·refine EL.ext (wr := w.alloc _) ⟨?_, ?_, ?_, ?_, ?_, ?_, ?_⟩ y
   all_goals first | (simp [go_sem]; done) | skip
   exact (Below.refl _ _).alloc (Nat.le_refl _) _
 case round =>
  obtain ⟨j, hj, rfl, rfl, hV⟩ := hrel
  have fu := UZ hV
  obtain ⟨sz, aB, i0, i1, i2, i3, i4⟩ := hV
  have b0 : w.heap.size < wr.heap.size := by omega
  have hl3 := HL.out
  clear aB c1
  by_cases hlt : j < (fm k).ops.length
  ·obtain ⟨C, hC⟩ : ∃ C : Int, ((((fm k).ops[j]'hlt).toNat : Nat) : Int) = C := ⟨_, rfl⟩
   have z0 : ((({ data := (fm k).ops.toArray } : ByteArray)[j]'(by simpa [ByteArray.size] using hlt)).toNat : Int) = C := hC
   have HF : ∀ W : World, Calls Tryz.prog 72 #[.pointer (some ⟨w.heap.size, 0, none⟩), .int .u8 C] W fun e w' => e = .returned (.pointer (some ⟨w.heap.size, fl C, none⟩)) ∧ W = w' := fun w' => eB _ C w'
   have HP := fC C
   have hf := fu.out.at_ C
   have hsz : ByteArray.size { data := (fm k).ops.toArray } = (fm k).ops.length := by simp [ByteArray.size]
   have dl : decide ((j : Int) < ((fm k).ops.length : Int)) = true := by simpa using hlt
   obtain ⟨lo, hlo⟩ : ∃ lo, nD C = lo := ⟨_, rfl⟩
   obtain ⟨sz', hsz'⟩ : ∃ s, nC C = s := ⟨_, rfl⟩
   rw [hlo, hsz'] at HP
   go_wp2_with (go_at_call 100; with_reducible refine (HP _).mono ?_; rintro e w' ⟨rfl, rfl⟩)
   refine ay TY TY ?_
   repeat (go_big_quiet_step (exact Calls.bO (HF _)))
   refine wpQuiet_nil ?_
   rintro _ ⟨y2, rfl⟩
   go_wp2_with fail
   go_roundw
   case rel =>
    refine ⟨j + 1, by omega, by go_num, ?_, fu.out.ext y2⟩
    rw [Au _ _ _ hlt, hC]
    unfold dN
    rw [hlo, hsz']
   case measure =>
    simp [intOf]
    omega
  ·obtain rfl : j = (fm k).ops.length := by omega
   go_wp2_with fail
   go_ret2
   exact ⟨rfl, fu.out.aB⟩
theorem Ar (i : bB) (h0 : 0 ≤ i.op) (hv : aL i = false) (w : World) (T : fM w) :
  Calls Tryz.prog 58 #[.agg #[.int .u8 i.op, .int .i64 i.a, .int .i64 i.b, .int .i64 i.c, .int .i64 i.aR]] w fun e w' => e = .returned (.tuple #[.int .u32 0, .int .i64 3]) ∧ Below w.heap.size w w' := by
 have HC : ∀ W : World, fM W → Calls Tryz.prog 32 #[.agg #[.int .u8 i.op, .int .i64 i.a, .int .i64 i.b, .int .i64 i.c, .int .i64 i.aR]] W fun e w' => e = .returned (.bool false) ∧ Below W.heap.size W w' := fun W hT => by
  have := cG i h0 W hT
  rwa [hv] at this
 have HT := UZ T
 have Ow := UZ HC
 clear HC T hv
 go_enter Tryz.func58, Tryz.ntmps58
 go_wp2_with (go_at_call 32; refine (Calls.ext (Ow.out _ (HT.out.below ((Below.refl _ _).alloc (Nat.le_refl _) _)))).mono ?_; rintro e w' ⟨rfl, y, rfl⟩)
 go_ret2
 refine ⟨rfl, Ext.below ((Below.refl _ _).alloc (Nat.le_refl _) _) T4 y⟩
theorem pL (i : bB) (h0 : 0 ≤ i.op) (w : World) (T : fM w) :
  Calls Tryz.prog 58 #[.agg #[.int .u8 i.op, .int .i64 i.a, .int .i64 i.b, .int .i64 i.c, .int .i64 i.aR]] w fun e w' => e = .returned (.tuple #[.int .u32 (jn i).1, .int .i64 (jn i).2]) ∧ Below w.heap.size w w' := by
 unfold jn
 by_cases hv : aL i = true
 ·rw [if_pos hv]
  have ho : i.op < 30 := by
   unfold aL at hv
   simp at hv
   exact hv.1
  exact xg i i.op.toNat TX TX hv w T
 ·rw [if_neg hv]
  exact Ar i h0 (by simpa using hv) w T
theorem w9 : ∀ k, k < 30 → ∀ c ∈ (fm k).ops, c = 65 ∨ c = 66 ∨ c = 67 ∨ c = 73 := by decide
def rawVal (x c : Int) : Int := if c = 65 then wrap64 (bits .and .u32 (x / 4194304) 15) else if c = 66 then wrap64 (bits .and .u32 (x / 262144) 15) else if c = 67 then wrap64 (bits .and .u32 (x / 16384) 15) else if 131072 ≤ wrap64 (bits .and .u32 x 262143) then wrap64 (wrap64 (bits .and .u32 x 262143) - 262144) else wrap64 (bits .and .u32 x 262143)
def kE (i : bB) (c v : Int) : bB := if c = 65 then { i with a := v } else if c = 66 then { i with b := v } else if c = 67 then { i with c := v } else { i with aR := v }
def qG (x : Int) (l : List UInt8) : bB := l.foldl (fun i ch => kE i (ch.toNat : Int) (rawVal x (ch.toNat : Int))) ⟨x / 67108864, 0, 0, 0, 0⟩
theorem iE (x : Int) (l : List UInt8) (j : Nat) (h : j < l.length) : qG x (l.take (j + 1)) = kE (qG x (l.take j)) ((l[j]'h).toNat : Int) (rawVal x ((l[j]'h).toNat : Int)) := by
 unfold qG
 rw [List.take_add_one, List.foldl_append, List.getElem?_eq_getElem h]
 rfl
theorem yj (x : Int) (l : List UInt8) : (qG x l).op = x / 67108864 := by
 have : ∀ (l : List UInt8) (i : bB), (l.foldl (fun i ch => kE i (ch.toNat : Int) (rawVal x (ch.toNat : Int))) i).op = i.op := by
  intro l
  induction l with
  | nil => intro i; rfl
  | cons c l ih =>
   intro i
   rw [List.foldl_cons, ih]
   unfold kE
   split
   ·rfl
   ·split
    ·rfl
    ·split <;> rfl
 exact this l _
def kj (x : Int) : bB := qG x (fm (x / 67108864).toNat).ops
def cZ (x : Int) : bB × Int := if x / 67108864 < 30 ∧ jn (kj x) = (x, 0) then (kj x, 0) else (⟨0, 0, 0, 0, 0⟩, 3)
structure DL (w wr : World) (i : bB) : Prop where
 sz : w.heap.size + 2 ≤ wr.heap.size
 aB : Below w.heap.size w wr
 r : wr.heap[w.heap.size]? = some (.cells #[.int .u8 0, .int .i64 0, .int .i64 0, .int .i64 0, .int .i64 0] 64 (0, 0))
 o : wr.heap[w.heap.size + 1]? = some (.cells #[.int .u8 i.op, .int .i64 i.a, .int .i64 i.b, .int .i64 i.c, .int .i64 i.aR] 64 (0, 0))
theorem DL.ext {w wr : World} {i : bB} (h : DL w wr i) (x : Ext wr) : DL w x.w i := by
 have hs := h.sz
 exact ⟨by have := x.h.size; omega, Ext.below h.aB TX x, by rw [x.h.block _ TX]; exact h.r, by rw [x.h.block _ TX]; exact h.o⟩
theorem DL.cell {w wr : World} {i : bB} (h : DL w wr i) (c : Int) : wr.cell? ⟨w.heap.size + 1, fl c, none⟩ = some (.int .i64 (letVal i c)) ∧ wr.frozen? ⟨w.heap.size + 1, fl c, none⟩ = false := by
 have ho := h.o
 unfold fl letVal
 refine ⟨?_, ?_⟩
 all_goals
  by_cases q1 : c = 65
  ·simp [q1, World.cell?, World.frozen?, ho]
  ·by_cases q2 : c = 66
   ·simp [q2, World.cell?, World.frozen?, ho]
   ·by_cases q3 : c = 67
    ·simp [q3, World.cell?, World.frozen?, ho]
    ·simp [q1, q2, q3, World.cell?, World.frozen?, ho]
theorem DL.put {w wr : World} {i : bB} (h : DL w wr i) (c v : Int) : DL w (wr.setCell ⟨w.heap.size + 1, fl c, none⟩ (.int .i64 v)) (kE i c v) := by
 have hs := h.sz
 refine ⟨by simpa using hs, h.aB.setCell (by show _ ≤ _ + 1; omega) _, ?_, ?_⟩
 ·rw [Below.heap_setCell _ _ _ _ (by show _ ≠ _ + 1; omega)]; exact h.r
 ·rw [heap_setCell_same _ _ _ _ _ _ h.o]
  unfold fl kE
  by_cases q1 : c = 65
  ·simp [q1]
  ·by_cases q2 : c = 66
   ·simp [q2]
   ·by_cases q3 : c = 67
    ·simp [q3]
    ·simp [q1, q2, q3]
theorem uW (x : Int) (k : Nat) (h : k < 30) (hx : x / 67108864 = (k : Int)) (hx0 : 0 ≤ x) (hx1 : x < 4294967296) (w : World) (T : fM w) :
  Calls Tryz.prog 62 #[.int .u32 x] w fun e w' => e = .returned (.tuple #[(cZ x).1.val, .int .i64 (cZ x).2]) ∧ Below w.heap.size w w' := by
 have hpos := T.pos
 have c1 := T.cells k h 1 _ rfl
 have HT := UZ T
 have HL := UZ (De k h)
 have d : decide (30 ≤ (k : Int)) = false := by simp; omega
 have hk : (k : Int) % 256 = k := by omega
 clear T
 go_enter Tryz.func62, Tryz.ntmps62
 go_wp2_with fail
 go_loopw [6, 7, 8, 9, 27] (fun a6 a7 a8 a9 q wr => ∃ j : Nat, j ≤ (fm k).ops.length ∧ q = .int .i64 (j : Int) ∧ DL w wr (qG x ((fm k).ops.take j))) (fun _ _ _ _ q _ => (fm k).ops.length - (intOf q).toNat)
 case atStart =>
  refine ⟨0, by omega, rfl, ?_⟩
  refine ⟨?_, ?_, ?_, ?_⟩
  all_goals first | (simp [go_sem]; done) | skip
  ·exact ((Below.refl _ _).alloc (Nat.le_refl _) _).alloc T4 _
  ·exact heap_alloc2_old _ _ _
  ·rw [heap_alloc2_new]
   simp [qG, hx]
 case round =>
  obtain ⟨j, hj, rfl, hV⟩ := hrel
  have fu := UZ hV
  obtain ⟨sz, aB, rr, oo⟩ := hV
  have b0 : w.heap.size < wr.heap.size := by omega
  have b1 : w.heap.size + 1 < wr.heap.size := by omega
  have hl3 := HL.out
  clear aB c1
  by_cases hlt : j < (fm k).ops.length
  ·obtain ⟨i, hi⟩ : ∃ i, qG x ((fm k).ops.take j) = i := ⟨_, rfl⟩
   rw [hi] at oo
   have hcs := w9 k h ((fm k).ops[j]'hlt) (List.getElem_mem hlt)
   obtain ⟨C, hC⟩ : ∃ C : Int, ((((fm k).ops[j]'hlt).toNat : Nat) : Int) = C := ⟨_, rfl⟩
   have z0 : ((({ data := (fm k).ops.toArray } : ByteArray)[j]'(by simpa [ByteArray.size] using hlt)).toNat : Int) = C := hC
   have R3 : C = 65 ∨ C = 66 ∨ C = 67 ∨ C = 73 := by
    rw [← hC]
    rcases hcs with q | q | q | q <;> rw [q] <;> decide
   have hsz : ByteArray.size { data := (fm k).ops.toArray } = (fm k).ops.length := by simp [ByteArray.size]
   have dl : decide ((j : Int) < ((fm k).ops.length : Int)) = true := by simpa using hlt
   clear hcs
   rcases R3 with rfl | rfl | rfl | rfl
   ·have HF : ∀ W : World, Calls Tryz.prog 72 #[.pointer (some ⟨w.heap.size + 1, 0, none⟩), .int .u8 65] W fun e w' => e = .returned (.pointer (some ⟨w.heap.size + 1, 1, none⟩)) ∧ W = w' := fun w' => eB _ 65 w'
    have HP : ∀ W : World, Calls Tryz.prog 100 #[.int .u8 65] W fun e w' => e = .returned (.tuple #[.int .i64 22, .int .i64 4]) ∧ W = w' := fun W => fC 65 W
    have cc : wr.cell? ⟨w.heap.size + 1, 1, none⟩ = some (.int .i64 (letVal i 65)) := by have := (fu.out.cell 65).1; rw [hi] at this; exact this
    have cf : wr.frozen? ⟨w.heap.size + 1, 1, none⟩ = false := (fu.out.cell 65).2
    go_wp2_with (go_at_call 100; with_reducible refine (HP _).mono ?_; rintro e w' ⟨rfl, rfl⟩)
    refine ay TY TY ?_
    repeat (go_big_quiet_step (fail))
    refine wpQuiet_nil ?_
    rintro _ ⟨y2, rfl⟩
    go_wp2_with (go_at_call 72; with_reducible refine (HF _).mono ?_; rintro e w' ⟨rfl, rfl⟩)
    go_roundw
    case rel =>
     refine ⟨j + 1, by omega, by go_num, ?_⟩
     rw [iE _ _ _ hlt, hC]
     have hr : rawVal x 65 = wrap64 (bits .and .u32 (x / 4194304) 15) := by unfold rawVal; rw [if_pos rfl]
     rw [hr]
     exact (fu.out.ext y2).put 65 _
    case measure =>
     simp [intOf]
     omega
   ·have HF : ∀ W : World, Calls Tryz.prog 72 #[.pointer (some ⟨w.heap.size + 1, 0, none⟩), .int .u8 66] W fun e w' => e = .returned (.pointer (some ⟨w.heap.size + 1, 2, none⟩)) ∧ W = w' := fun w' => eB _ 66 w'
    have HP : ∀ W : World, Calls Tryz.prog 100 #[.int .u8 66] W fun e w' => e = .returned (.tuple #[.int .i64 18, .int .i64 4]) ∧ W = w' := fun W => fC 66 W
    have cc : wr.cell? ⟨w.heap.size + 1, 2, none⟩ = some (.int .i64 (letVal i 66)) := by have := (fu.out.cell 66).1; rw [hi] at this; exact this
    have cf : wr.frozen? ⟨w.heap.size + 1, 2, none⟩ = false := (fu.out.cell 66).2
    go_wp2_with (go_at_call 100; with_reducible refine (HP _).mono ?_; rintro e w' ⟨rfl, rfl⟩)
    refine ay TY TY ?_
    repeat (go_big_quiet_step (fail))
    refine wpQuiet_nil ?_
    rintro _ ⟨y2, rfl⟩
    go_wp2_with (go_at_call 72; with_reducible refine (HF _).mono ?_; rintro e w' ⟨rfl, rfl⟩)
    go_roundw
    case rel =>
     refine ⟨j + 1, by omega, by go_num, ?_⟩
     rw [iE _ _ _ hlt, hC]
     have hr : rawVal x 66 = wrap64 (bits .and .u32 (x / 262144) 15) := by unfold rawVal; rw [if_neg T1, if_pos rfl]
     rw [hr]
     exact (fu.out.ext y2).put 66 _
    case measure =>
     simp [intOf]
     omega
   ·have HF : ∀ W : World, Calls Tryz.prog 72 #[.pointer (some ⟨w.heap.size + 1, 0, none⟩), .int .u8 67] W fun e w' => e = .returned (.pointer (some ⟨w.heap.size + 1, 3, none⟩)) ∧ W = w' := fun w' => eB _ 67 w'
    have HP : ∀ W : World, Calls Tryz.prog 100 #[.int .u8 67] W fun e w' => e = .returned (.tuple #[.int .i64 14, .int .i64 4]) ∧ W = w' := fun W => fC 67 W
    have cc : wr.cell? ⟨w.heap.size + 1, 3, none⟩ = some (.int .i64 (letVal i 67)) := by have := (fu.out.cell 67).1; rw [hi] at this; exact this
    have cf : wr.frozen? ⟨w.heap.size + 1, 3, none⟩ = false := (fu.out.cell 67).2
    go_wp2_with (go_at_call 100; with_reducible refine (HP _).mono ?_; rintro e w' ⟨rfl, rfl⟩)
    refine ay TY TY ?_
    repeat (go_big_quiet_step (fail))
    refine wpQuiet_nil ?_
    rintro _ ⟨y2, rfl⟩
    go_wp2_with (go_at_call 72; with_reducible refine (HF _).mono ?_; rintro e w' ⟨rfl, rfl⟩)
    go_roundw
    case rel =>
     refine ⟨j + 1, by omega, by go_num, ?_⟩
     rw [iE _ _ _ hlt, hC]
     have hr : rawVal x 67 = wrap64 (bits .and .u32 (x / 16384) 15) := by unfold rawVal; rw [if_neg T1, if_neg T1, if_pos rfl]
     rw [hr]
     exact (fu.out.ext y2).put 67 _
    case measure =>
     simp [intOf]
     omega
   ·have HF : ∀ W : World, Calls Tryz.prog 72 #[.pointer (some ⟨w.heap.size + 1, 0, none⟩), .int .u8 73] W fun e w' => e = .returned (.pointer (some ⟨w.heap.size + 1, 4, none⟩)) ∧ W = w' := fun w' => eB _ 73 w'
    have HP : ∀ W : World, Calls Tryz.prog 100 #[.int .u8 73] W fun e w' => e = .returned (.tuple #[.int .i64 0, .int .i64 18]) ∧ W = w' := fun W => fC 73 W
    have cc : wr.cell? ⟨w.heap.size + 1, 4, none⟩ = some (.int .i64 (letVal i 73)) := by have := (fu.out.cell 73).1; rw [hi] at this; exact this
    have cf : wr.frozen? ⟨w.heap.size + 1, 4, none⟩ = false := (fu.out.cell 73).2
    by_cases hg : 131072 ≤ wrap64 (bits .and .u32 x 262143)
    ·have dg : decide (131072 ≤ wrap64 (bits .and .u32 x 262143)) = true := decide_eq_true hg
     go_wp2_with (go_at_call 100; with_reducible refine (HP _).mono ?_; rintro e w' ⟨rfl, rfl⟩)
     refine ay TY TY ?_
     repeat (go_big_quiet_step (fail))
     refine wpQuiet_nil ?_
     rintro _ ⟨y2, rfl⟩
     go_wp2_with (go_at_call 72; with_reducible refine (HF _).mono ?_; rintro e w' ⟨rfl, rfl⟩)
     go_roundw
     case rel =>
      refine ⟨j + 1, by omega, by go_num, ?_⟩
      rw [iE _ _ _ hlt, hC]
      have hr : rawVal x 73 = wrap64 (wrap64 (bits .and .u32 x 262143) - 262144) := by unfold rawVal; rw [if_neg T1, if_neg T1, if_neg T1, if_pos hg]
      rw [hr]
      exact (fu.out.ext y2).put 73 _
     case measure =>
      simp [intOf]
      omega
    ·have dg : decide (131072 ≤ wrap64 (bits .and .u32 x 262143)) = false := decide_eq_false hg
     go_wp2_with (go_at_call 100; with_reducible refine (HP _).mono ?_; rintro e w' ⟨rfl, rfl⟩)
     refine ay TY TY ?_
     repeat (go_big_quiet_step (fail))
     refine wpQuiet_nil ?_
     rintro _ ⟨y2, rfl⟩
     go_wp2_with (go_at_call 72; with_reducible refine (HF _).mono ?_; rintro e w' ⟨rfl, rfl⟩)
     go_roundw
     case rel =>
      refine ⟨j + 1, by omega, by go_num, ?_⟩
      rw [iE _ _ _ hlt, hC]
      have hr : rawVal x 73 = wrap64 (bits .and .u32 x 262143) := by unfold rawVal; rw [if_neg T1, if_neg T1, if_neg T1, if_neg (Int.not_le.mpr hg)]
      rw [hr]
      exact (fu.out.ext y2).put 73 _
     case measure =>
      simp [intOf]
      omega
  ·obtain rfl : j = (fm k).ops.length := by omega
   rw [List.take_length] at oo
   obtain ⟨i, hi⟩ : ∃ i, qG x (fm k).ops = i := ⟨_, rfl⟩
   have Rx : kj x = i := by unfold kj; rw [hx]; exact hi
   have hop : i.op = (k : Int) := by rw [← hi, yj, hx]
   rw [hi] at oo
   have SC := UZ (HT.out.below fu.out.aB)
   have HE := UZ (pL i TX wr SC.out)
   have M0 : x / 67108864 < 30 := by omega
   obtain ⟨E1, E2, hE⟩ : ∃ E1 E2, jn i = (E1, E2) := ⟨_, _, rfl⟩
   rw [hE] at HE
   have HD := UZ (show cZ x = if E1 = x ∧ E2 = 0 then (i, 0) else (⟨0, 0, 0, 0, 0⟩, 3) by
    unfold cZ
    rw [Rx, hE]
    simp [M0])
   obtain ⟨op, a, b, c, aR⟩ := i
   simp only at HE oo
   have o0 : wr.cell? ⟨w.heap.size + 1, 0, none⟩ = some (.int .u8 op) := by simp [World.cell?, oo]
   have r0 : wr.cell? ⟨w.heap.size, 0, none⟩ = some (.int .u8 0) := by simp [World.cell?, rr]
   have rf0 : wr.frozen? ⟨w.heap.size, 0, none⟩ = false := by simp [World.frozen?, rr]
   have o1 : wr.cell? ⟨w.heap.size + 1, 1, none⟩ = some (.int .i64 a) := by simp [World.cell?, oo]
   have r1 : wr.cell? ⟨w.heap.size, 1, none⟩ = some (.int .i64 0) := by simp [World.cell?, rr]
   have rf1 : wr.frozen? ⟨w.heap.size, 1, none⟩ = false := by simp [World.frozen?, rr]
   have o2 : wr.cell? ⟨w.heap.size + 1, 2, none⟩ = some (.int .i64 b) := by simp [World.cell?, oo]
   have r2 : wr.cell? ⟨w.heap.size, 2, none⟩ = some (.int .i64 0) := by simp [World.cell?, rr]
   have rf2 : wr.frozen? ⟨w.heap.size, 2, none⟩ = false := by simp [World.frozen?, rr]
   have o3 : wr.cell? ⟨w.heap.size + 1, 3, none⟩ = some (.int .i64 c) := by simp [World.cell?, oo]
   have r3 : wr.cell? ⟨w.heap.size, 3, none⟩ = some (.int .i64 0) := by simp [World.cell?, rr]
   have rf3 : wr.frozen? ⟨w.heap.size, 3, none⟩ = false := by simp [World.frozen?, rr]
   have o4 : wr.cell? ⟨w.heap.size + 1, 4, none⟩ = some (.int .i64 aR) := by simp [World.cell?, oo]
   have r4 : wr.cell? ⟨w.heap.size, 4, none⟩ = some (.int .i64 0) := by simp [World.cell?, rr]
   have rf4 : wr.frozen? ⟨w.heap.size, 4, none⟩ = false := by simp [World.frozen?, rr]
   go_wp2_with (go_at_call 58; refine (Calls.ext HE.out).mono ?_; rintro e w' ⟨rfl, y, rfl⟩)
   ·rename_i q1 q2
    have hne : ¬ (E1 = x ∧ E2 = 0) := by rintro ⟨p1, p2⟩; simp [p1] at q2
    refine bodyPost_ret (v := .tuple #[.agg #[.int .u8 0, .int .i64 0, .int .i64 0, .int .i64 0, .int .i64 0], .int .i64 3]) Uw rfl ⟨?_, ?_⟩
    ·rw [HD.out, if_neg hne]; rfl
    ·refine Below.setCell (Below.setCell (Below.setCell (Below.setCell (Below.setCell (Ext.below fu.out.aB TX y) ?_ _) ?_ _) ?_ _) ?_ _) ?_ _ <;> exact Nat.le_refl _
   ·rename_i q1 q2
    have hyes : E1 = x ∧ E2 = 0 := ⟨by simpa using q2, q1⟩
    refine bodyPost_ret (v := .tuple #[.agg #[.int .u8 op, .int .i64 a, .int .i64 b, .int .i64 c, .int .i64 aR], .int .i64 0]) Uw rfl ⟨?_, ?_⟩
    ·rw [HD.out, if_pos hyes]; rfl
    ·refine Below.setCell (Below.setCell (Below.setCell (Below.setCell (Below.setCell (Ext.below fu.out.aB TX y) ?_ _) ?_ _) ?_ _) ?_ _) ?_ _ <;> exact Nat.le_refl _
   ·rename_i q1
    have hne : ¬ (E1 = x ∧ E2 = 0) := by rintro ⟨p1, p2⟩; exact q1 p2
    refine bodyPost_ret (v := .tuple #[.agg #[.int .u8 0, .int .i64 0, .int .i64 0, .int .i64 0, .int .i64 0], .int .i64 3]) Uw rfl ⟨?_, ?_⟩
    ·rw [HD.out, if_neg hne]; rfl
    ·refine Below.setCell (Below.setCell (Below.setCell (Below.setCell (Below.setCell (Ext.below fu.out.aB TX y) ?_ _) ?_ _) ?_ _) ?_ _) ?_ _ <;> exact Nat.le_refl _
theorem xy (x : Int) (h : ¬ x / 67108864 < 30) (hx0 : 0 ≤ x) (hx1 : x < 4294967296) (w : World) :
  Calls Tryz.prog 62 #[.int .u32 x] w fun e w' => e = .returned (.tuple #[(cZ x).1.val, .int .i64 (cZ x).2]) ∧ Below w.heap.size w w' := by
 obtain ⟨q, hq⟩ : ∃ q, x / 67108864 = q := ⟨_, rfl⟩
 have HD := UZ (show cZ x = (⟨0, 0, 0, 0, 0⟩, 3) by unfold cZ; simp [h])
 have d : decide (30 ≤ q) = true := by simp; omega
 have hk : q % 256 = q := by omega
 go_enter Tryz.func62, Tryz.ntmps62
 go_wp2_with fail
 refine bodyPost_ret (v := .tuple #[.agg #[.int .u8 0, .int .i64 0, .int .i64 0, .int .i64 0, .int .i64 0], .int .i64 3]) Uw rfl ⟨?_, ?_⟩
 ·rw [HD.out]; rfl
 ·(repeat (first | exact Below.refl _ _ | refine Below.setCell ?_ ?_ _ | refine Below.alloc ?_ ?_ _)) <;> (first | (simp; done) | (simp; omega) | omega)
theorem kQ (x : Int) (hx0 : 0 ≤ x) (hx1 : x < 4294967296) (w : World) (T : fM w) :
  Calls Tryz.prog 62 #[.int .u32 x] w fun e w' => e = .returned (.tuple #[(cZ x).1.val, .int .i64 (cZ x).2]) ∧ Below w.heap.size w w' := by
 by_cases h : x / 67108864 < 30
 ·exact uW x (x / 67108864).toNat TX TX hx0 hx1 w T
 ·exact xy x h hx0 hx1 w
end
end Go.Proofs.YtebklpnkcicpjaaGreatDoor
