/-
  What is proved here: parts aOp.
-/
import Derived.Test.YtebklpnkcicpjaaGreatDoorYa
import Derived.Test.YtebklpnkcicpjaaGreatDoorYh
import Derived.Test.YtebklpnkcicpjaaGreatDoorYe
namespace Go.Proofs.YtebklpnkcicpjaaGreatDoor
set_option linter.unusedVariables false
set_option linter.unusedSimpArgs false
set_option maxRecDepth 100000
set_option maxHeartbeats 8000000
section
open Go.ChangeShapes Go.WideShapes Go.ChangeAt Go.RowKit
theorem wH {P : Program} {w : World} {r : Reach} {base : Nat} {t e : TypeId} {n : Nat} {v : Value} (ht : P.underlying t = some (.array n e)) (h : Value.okWide P w r base t v) : ∃ cs, v = .agg cs ∧ cs.size = P.cellsOf t := by
 simp only [Value.okWide, ht] at h
 obtain ⟨cs, h1, h2, _⟩ := h
 exact ⟨cs, h1, h2⟩
theorem Ay : Tryz.prog.cellsOf 64 = 5 := by kernel_rfl
theorem Ax : Tryz.prog.cellsOf 56 = 32 := by kernel_rfl
theorem Dp : Tryz.prog.cellsOf 54 = 2 := by kernel_rfl
theorem Az : Tryz.prog.cellsOf 21 = 1 := by kernel_rfl
theorem Dn : Tryz.prog.cellsOf 5 = 1 := by kernel_rfl
theorem jR : Tryz.prog.cellsOf 3 = 1 := by kernel_rfl
section
variable {H : Type} {enc : TypeId × Value → H} {w : World} {base : Nat} {spare : Nat → Bool} {held : Bool}
theorem Cq {r : Reach} {b0 : Nat} {v : Value} {d : DataW H} {p : List MemPlace} (hv : Value.okWide Tryz.prog w r b0 64 v) (h : DataW.Trod enc Tryz.prog w base spare held 64 v d p) :
  ∃ op a b c im, v = .agg #[.int .u8 op, .int .i64 a, .int .i64 b, .int .i64 c, .int .i64 im] ∧ 0 ≤ op ∧ op ≤ 255 := by
 obtain ⟨cs, rfl, hsz⟩ := okWide_struct Tryz.underlying64 hv
 have h5 : cs.size = 5 := hsz.trans Ay
 obtain ⟨fuel, hf⟩ := h
 obtain ⟨xs, n, _, _, hl, hlen, hx⟩ := DataW.trod_struct Tryz.underlying64 hf
 obtain ⟨c0, c1, c2, c3, c4, rfl⟩ : ∃ c0 c1 c2 c3 c4, cs = #[c0, c1, c2, c3, c4] := by
  obtain ⟨l⟩ := cs
  match l, h5 with
  | [c0, c1, c2, c3, c4], _ => exact ⟨c0, c1, c2, c3, c4, rfl⟩
 match xs, hlen with
 | [y0, y1, y2, y3, y4], _ =>
  have g0 : DataW.trod enc Tryz.prog w base spare held n 5 (([c0, c1, c2, c3, c4].drop 0).take (Tryz.prog.cellsOf 5)) = some y0 := hx 0 _ rfl
  rw [Dn] at g0
  have g1 : DataW.trod enc Tryz.prog w base spare held n 3 (([c0, c1, c2, c3, c4].drop 1).take (Tryz.prog.cellsOf 3)) = some y1 := hx 1 _ rfl
  rw [jR] at g1
  have g2 : DataW.trod enc Tryz.prog w base spare held n 3 (([c0, c1, c2, c3, c4].drop 2).take (Tryz.prog.cellsOf 3)) = some y2 := hx 2 _ rfl
  rw [jR] at g2
  have g3 : DataW.trod enc Tryz.prog w base spare held n 3 (([c0, c1, c2, c3, c4].drop 3).take (Tryz.prog.cellsOf 3)) = some y3 := hx 3 _ rfl
  rw [jR] at g3
  have g4 : DataW.trod enc Tryz.prog w base spare held n 3 (([c0, c1, c2, c3, c4].drop 4).take (Tryz.prog.cellsOf 3)) = some y4 := hx 4 _ rfl
  rw [jR] at g4
  obtain ⟨z0, e0, _, w0⟩ := DataW.trod_int Tryz.underlying5 g0
  obtain ⟨z1, e1, _, _⟩ := DataW.trod_int Tryz.underlying3 g1
  obtain ⟨z2, e2, _, _⟩ := DataW.trod_int Tryz.underlying3 g2
  obtain ⟨z3, e3, _, _⟩ := DataW.trod_int Tryz.underlying3 g3
  obtain ⟨z4, e4, _, _⟩ := DataW.trod_int Tryz.underlying3 g4
  simp at e0 e1 e2 e3 e4
  subst e0 e1 e2 e3 e4
  refine ⟨z0, z1, z2, z3, z4, rfl, ?_⟩
  simp [Lit.wf, IntKind.min, IntKind.max, IntKind.signed, IntKind.bits] at w0
  omega
theorem zL {r : Reach} {b0 : Nat} {v : Value} {d : DataW H} {p : List MemPlace} (hv : Value.okWide Tryz.prog w r b0 56 v) (h : DataW.Trod enc Tryz.prog w base spare held 56 v d p) :
  ∃ g : RG, v = .agg (aa g).toArray ∧ R16 g := by
 obtain ⟨cs, rfl, hsz⟩ := wH Tryz.underlying56 hv
 have h32 : cs.size = 32 := hsz.trans Ax
 obtain ⟨fuel, hf⟩ := h
 obtain ⟨xs, n, _, _, hl, hlen, hx⟩ := DataW.trod_array Tryz.underlying56 hf
 have e2 := Dp
 have e1 := Az
 have key : ∀ i, i < 16 → ∃ x : Int × Int, (aK x.1 ∧ aK x.2) ∧ cs.toList[i * 2]? = some (.int .i32 x.1) ∧ cs.toList[i * 2 + 1]? = some (.int .i32 x.2) := fun i hi => by
  have g := hx i hi
  obtain ⟨y, hy⟩ : ∃ y, xs[i]? = some y := ⟨_, List.getElem?_eq_getElem TX⟩
  rw [hy, e2] at g
  obtain ⟨y0, y1, m, g0, g1⟩ : ∃ y0 y1 m, DataW.trod enc Tryz.prog w base spare held m 21 ((((Value.agg cs).cells.toList.drop (i * 2)).take 2).take 1) = some y0 ∧ DataW.trod enc Tryz.prog w base spare held m 21 (((((Value.agg cs).cells.toList.drop (i * 2)).take 2).drop 1).take 1) = some y1 := by
   obtain ⟨zs, m, _, _, hl2, J6, hz⟩ := DataW.trod_struct Tryz.underlying54 g
   match zs, J6 with
   | [y0, y1], _ =>
    have a0 : DataW.trod enc Tryz.prog w base spare held m 21 (((((Value.agg cs).cells.toList.drop (i * 2)).take 2).drop 0).take (Tryz.prog.cellsOf 21)) = some y0 := hz 0 _ rfl
    have a1 : DataW.trod enc Tryz.prog w base spare held m 21 (((((Value.agg cs).cells.toList.drop (i * 2)).take 2).drop 1).take (Tryz.prog.cellsOf 21)) = some y1 := hz 1 _ rfl
    rw [e1] at a0 a1
    rw [List.drop_zero] at a0
    exact ⟨y0, y1, m, a0, a1⟩
  obtain ⟨z0, f0, _, w0⟩ := DataW.trod_int Tryz.underlying21 g0
  obtain ⟨z1, f1, _, w1⟩ := DataW.trod_int Tryz.underlying21 g1
  have wf : ∀ z : Int, (Lit.int .i32 z).wf = true → aK z := fun z hz => by
   simp [Lit.wf, IntKind.min, IntKind.max, IntKind.signed, IntKind.bits] at hz
   unfold aK; omega
  refine ⟨(z0, z1), ⟨wf _ w0, wf _ w1⟩, ?_, ?_⟩
  ·have := congrArg (fun l => l[0]?) f0
   simp [List.getElem?_take, List.getElem?_drop, Value.cells] at this
   simpa using this
  ·have := congrArg (fun l => l[0]?) f1
   simp [List.getElem?_take, List.getElem?_drop, Value.cells] at this
   simpa using this
 obtain ⟨g, hg⟩ : ∃ g : RG, g = (List.range 16).map (fun i => if h : i < 16 then (key i h).choose else (0, 0)) := ⟨_, rfl⟩
 have RD : g.length = 16 := by rw [hg]; simp
 have Pn : ∀ i (hi : i < 16), g[i]? = some (key i hi).choose := fun i hi => by
  rw [hg, List.getElem?_map, List.getElem?_range hi]
  simp [hi]
 refine ⟨g, ?_, RD, fun x hx => ?_⟩
 ·congr 1
  apply Array.ext'
  apply List.ext_getElem?
  intro q
  have hcl := az g
  by_cases hq : q < 32
  ·obtain ⟨a, b, hb, rfl⟩ : ∃ a b, b < 2 ∧ q = a * 2 + b := ⟨q / 2, q % 2, Nat.mod_lt _ TX, by omega⟩
   have ha : a < 16 := by omega
   obtain ⟨_, k1, k2⟩ := (key a ha).choose_spec
   rw [List.toList_toArray, iG g a b _ (Pn a ha) hb]
   obtain rfl | rfl : b = 0 ∨ b = 1 := by omega
   ·simpa using k1
   ·simpa using k2
  ·rw [List.getElem?_eq_none T9, List.getElem?_eq_none T9]
 ·obtain ⟨i, hi, e⟩ := List.getElem_of_mem hx
  have hi' : i < 16 := by omega
  have := Pn i hi'
  rw [List.getElem?_eq_getElem hi, e] at this
  rw [Option.some.inj this]
  exact (key i hi').choose_spec.1
end
end
end Go.Proofs.YtebklpnkcicpjaaGreatDoor
