/-
  What is proved here: what the table of formats holds in memory, given that it reads as the row lists it.
-/
import Derived.Test.YtfceodpdipniaaaDoorCgIdx
import Derived.MapViews
namespace Go.Proofs.YtfceodpdipniaaaDoor
open Go.RowKit
set_option linter.unusedVariables false
set_option linter.unusedSimpArgs false

/-- The format of an opcode: mnemonic, operands, reads, writes, low, high. -/
structure Fm where
  mn : List UInt8
  ops : List UInt8
  rd : List UInt8
  wr : Bool
  lo : Int
  hi : Int
deriving Inhabited
def Fm.cells (f : Fm) : List Value := [.string ⟨f.mn.toArray⟩, .string ⟨f.ops.toArray⟩, .string ⟨f.rd.toArray⟩, .bool f.wr, .int .i64 f.lo, .int .i64 f.hi]
def Fm.data {H : Type} (f : Fm) : DataW H := .agg [.lit (.string f.mn), .lit (.string f.ops), .lit (.string f.rd), .lit (.bool f.wr), .lit (.int .i64 f.lo), .lit (.int .i64 f.hi)]

set_option maxRecDepth 100000 in
theorem fm_of_trod {H : Type} {enc : TypeId × Value → H} {w : World} {base : Nat} {sp : Nat → Bool} {held : Bool} {fuel : Nat} {cs : List Value} {f : Fm} {p : List MemPlace}
    (h : DataW.trod enc Tryd.prog w base sp held fuel 109 cs = some (f.data, p)) : cs = f.cells := by
  cases fuel with
  | zero => simp [DataW.trod] at h
  | succ fuel =>
    rw [DataW.trod_step] at h
    unfold DataW.trodStep at h
    simp only [Tryd.underlying109] at h
    have c109 : Tryd.prog.cellsOf 109 = 6 := by kernel_rfl
    have c9 : Tryd.prog.cellsOf 9 = 1 := by kernel_rfl
    have c4 : Tryd.prog.cellsOf 4 = 1 := by kernel_rfl
    have c3 : Tryd.prog.cellsOf 3 = 1 := by kernel_rfl
    rw [c109] at h
    split at h
    · rename_i hl
      obtain ⟨v0, v1, v2, v3, v4, v5, rfl⟩ : ∃ v0 v1 v2 v3 v4 v5, cs = [v0, v1, v2, v3, v4, v5] := by
        match cs, hl with
        | [a, b, c, d, e, g], _ => exact ⟨a, b, c, d, e, g, rfl⟩
      simp only [c9, c4, c3, List.drop_succ_cons, List.drop_zero, List.take_succ_cons, List.take_zero, Option.map_eq_some_iff, List.mapM_cons, List.mapM_nil, Option.bind_eq_bind, Option.bind_eq_some_iff, Option.pure_def, Option.some.injEq] at h
      obtain ⟨xs, ⟨y0, h0, _, ⟨y1, h1, _, ⟨y2, h2, _, ⟨y3, h3, _, ⟨y4, h4, _, ⟨y5, h5, _, rfl, rfl⟩, rfl⟩, rfl⟩, rfl⟩, rfl⟩, rfl⟩, hx⟩ := h
      obtain ⟨s0, e0, rfl, _⟩ := DataW.trod_string Tryd.underlying9 h0
      obtain ⟨s1, e1, rfl, _⟩ := DataW.trod_string Tryd.underlying9 h1
      obtain ⟨s2, e2, rfl, _⟩ := DataW.trod_string Tryd.underlying9 h2
      obtain ⟨s3, e3, rfl⟩ := DataW.trod_bool Tryd.underlying4 h3
      obtain ⟨s4, e4, rfl, _⟩ := DataW.trod_int Tryd.underlying3 h4
      obtain ⟨s5, e5, rfl, _⟩ := DataW.trod_int Tryd.underlying3 h5
      simp only [List.cons.injEq, and_true] at e0 e1 e2 e3 e4 e5
      subst e0 e1 e2 e3 e4 e5
      obtain ⟨f0, f1, f2, f3, f4, f5⟩ := f
      obtain ⟨⟨a0⟩⟩ := s0
      obtain ⟨⟨a1⟩⟩ := s1
      obtain ⟨⟨a2⟩⟩ := s2
      simp [Fm.data] at hx
      obtain ⟨⟨rfl, rfl, rfl, rfl, rfl, rfl⟩, _⟩ := hx
      rfl
    · cases h

/-- The table. -/
def fms : List Fm := [⟨[110, 111, 112], [], [], false, 0, 0⟩, ⟨[104, 97, 108, 116], [], [], false, 0, 0⟩, ⟨[97, 100, 100], [65, 66, 67], [66, 67], true, 0, 0⟩, ⟨[115, 117, 98], [65, 66, 67], [66, 67], true, 0, 0⟩, ⟨[109, 117, 108], [65, 66, 67], [66, 67], true, 0, 0⟩, ⟨[100, 105, 118], [65, 66, 67], [66, 67], true, 0, 0⟩, ⟨[109, 111, 100], [65, 66, 67], [66, 67], true, 0, 0⟩, ⟨[97, 110, 100], [65, 66, 67], [66, 67], true, 0, 0⟩, ⟨[111, 114], [65, 66, 67], [66, 67], true, 0, 0⟩, ⟨[120, 111, 114], [65, 66, 67], [66, 67], true, 0, 0⟩, ⟨[115, 104, 108], [65, 66, 67], [66, 67], true, 0, 0⟩, ⟨[115, 104, 114], [65, 66, 67], [66, 67], true, 0, 0⟩, ⟨[101, 113], [65, 66, 67], [66, 67], true, 0, 0⟩, ⟨[108, 116], [65, 66, 67], [66, 67], true, 0, 0⟩, ⟨[108, 105], [65, 73], [], true, (-131072), 131071⟩, ⟨[97, 100, 100, 105], [65, 66, 73], [66], true, (-131072), 131071⟩, ⟨[115, 104, 108, 105], [65, 66, 73], [66], true, 0, 31⟩, ⟨[111, 114, 105], [65, 66, 73], [66], true, 0, 16383⟩, ⟨[108, 100], [65, 66, 73], [66], true, (-131072), 131071⟩, ⟨[115, 116], [65, 66, 73], [65, 66], false, (-131072), 131071⟩, ⟨[108, 100, 115], [65, 66, 73], [66], true, (-131072), 131071⟩, ⟨[115, 116, 115], [65, 66, 73], [65, 66], false, (-131072), 131071⟩, ⟨[98, 101, 113, 122], [65, 73], [65], false, (-131072), 131071⟩, ⟨[98, 110, 101, 122], [65, 73], [65], false, (-131072), 131071⟩, ⟨[106, 109, 112], [73], [], false, (-131072), 131071⟩, ⟨[98, 111, 117, 110, 100], [65, 73], [65], false, 1, 131071⟩, ⟨[105, 110], [65, 73], [], true, 0, 7⟩, ⟨[111, 117, 116], [65, 73], [65], false, 0, 7⟩, ⟨[108, 111, 99, 107], [73], [], false, 0, 3⟩, ⟨[117, 110, 108, 111, 99, 107], [73], [], false, 0, 3⟩]
theorem laid_fms {H : Type} : (Rows.laid_ontime_isa_formats : DataW H) = .agg (fms.map Fm.data) := by kernel_rfl
def fmCells : List Value := fms.flatMap Fm.cells

theorem mapM_rows {α β : Type} {g : α → Option β} {L : List α} {xs : List β} (h : L.mapM g = some xs) : xs.length = L.length ∧ ∀ i, i < L.length → ∃ a b, L[i]? = some a ∧ xs[i]? = some b ∧ g a = some b := by
  induction L generalizing xs with
  | nil => simp at h; subst h; exact ⟨rfl, fun i hi => by simp at hi⟩
  | cons a L ih =>
    rw [List.mapM_cons] at h
    simp only [bind, Option.bind_eq_some_iff, pure, Option.some.injEq] at h
    obtain ⟨y, hy, ys, hys, rfl⟩ := h
    obtain ⟨l1, l2⟩ := ih hys
    refine ⟨by simp [l1], fun i hi => ?_⟩
    cases i with
    | zero => exact ⟨a, y, rfl, rfl, hy⟩
    | succ i => simpa using l2 i (by simpa using hi)

theorem chunks_eq {α : Type} (c : Nat) : ∀ (rows : List (List α)) (cs : List α), cs.length = rows.length * c → (∀ i r, rows[i]? = some r → (cs.drop (i * c)).take c = r) → cs = rows.flatten
  | [], cs, hl, _ => by simp at hl; simp [hl]
  | r :: rows, cs, hl, h => by
    have h0 := h 0 r rfl
    simp only [Nat.zero_mul, List.drop_zero] at h0
    have hl' : cs.length = rows.length * c + c := by rw [hl, List.length_cons, Nat.succ_mul]
    have := chunks_eq c rows (cs.drop c) (by rw [List.length_drop]; omega) (fun i r' hr => by
      have := h (i + 1) r' (by simpa using hr)
      rw [Nat.succ_mul, Nat.add_comm] at this
      rwa [List.drop_drop])
    rw [List.flatten_cons, ← this, ← h0, List.take_append_drop]

theorem cells_of_laid {W : World} (h : laidMet Tryd.prog [("ontime/isa.formats", Rows.laid_ontime_isa_formats)] W) : W.var? Tryd.prog "ontime/isa.formats" = some fmCells.toArray := by
  obtain ⟨ps, ⟨g, t, cs, fuel, p, q, hg, ht, hvar, hd, _, _⟩, _⟩ := h
  obtain rfl := Option.some.inj ((show Tryd.prog.globalNamed "ontime/isa.formats" = some 0 by kernel_rfl).symm.trans hg)
  obtain rfl := Option.some.inj ((show (Tryd.prog.globals[0]?).map (·.type) = some 110 by kernel_rfl).symm.trans ht)
  rw [hvar]
  congr 1
  obtain ⟨l⟩ := cs
  cases fuel with
  | zero => simp [DataW.trod] at hd
  | succ fuel =>
    rw [DataW.trod_step] at hd
    unfold DataW.trodStep at hd
    have c110 : Tryd.prog.cellsOf 110 = 180 := by kernel_rfl
    have c109 : Tryd.prog.cellsOf 109 = 6 := by kernel_rfl
    simp only [Tryd.underlying110] at hd
    rw [c110, c109] at hd
    split at hd
    · rename_i hl
      rw [laid_fms] at hd
      simp only [Option.map_eq_some_iff, Prod.mk.injEq, DataW.agg.injEq] at hd
      obtain ⟨xs, hx, e1, e2⟩ := hd
      obtain ⟨l1, l2⟩ := mapM_rows hx
      have hrow : ∀ i r, (fms.map Fm.cells)[i]? = some r → (l.drop (i * 6)).take 6 = r := by
        intro i r hr
        rw [List.getElem?_map] at hr
        obtain ⟨f, hf, rfl⟩ := Option.map_eq_some_iff.mp hr
        have hi : i < 30 := by
          have := (List.getElem?_eq_some_iff.mp hf).1
          exact this
        obtain ⟨a, b, ha, hb, hab⟩ := l2 i (by simpa using hi)
        rw [List.getElem?_range hi] at ha
        obtain rfl := Option.some.inj ha
        have hb' : (xs.map (·.1))[i]? = some b.1 := by rw [List.getElem?_map, hb]; rfl
        rw [e1, List.getElem?_map, hf] at hb'
        have hb2 : f.data = b.1 := Option.some.inj hb'
        obtain ⟨b1, b2⟩ := b
        simp only at hb2
        subst hb2
        exact fm_of_trod hab
      have := chunks_eq 6 (fms.map Fm.cells) l (by rw [show (fms.map Fm.cells).length = 30 from rfl]; exact hl) hrow
      rw [this]
      rfl
    · cases hd

end Go.Proofs.YtfceodpdipniaaaDoor
