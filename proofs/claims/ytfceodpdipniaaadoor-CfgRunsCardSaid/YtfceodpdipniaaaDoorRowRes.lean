/-
  What is proved here: laws that any program may use: a result that lies in a cell of many words is read by one law; a struct's value is stored as one opaque value.
-/
import Derived.Test.YtfceodpdipniaaaDoorExt
import Derived.Deep.MidRow
namespace Go.Proofs.YtfceodpdipniaaaDoor
open Go.RowKit
set_option linter.unusedSimpArgs false

theorem rangeAt_block {w : World} {b : Nat} {cs : List Value} {t : TypeId} {fr : Nat × Nat} (h : w.heap[b]? = some (.cells cs.toArray t fr)) : w.rangeAt b 0 cs := fun j v hv => by
  simp [World.cell?, h, hv]
theorem run_asAddr {P : Program} (w : World) (b o : Nat) : (asAddr (.pointer (some ⟨b, o, none⟩))).run P w = .ok ⟨b, o, none⟩ w := by simp [asAddr]
/-- Results: a struct in a cell, then a slot. -/
theorem results_cell_tmp {P : Program} {fn : Func} {a u : Tmp} {ty : TypeId} (h : fn.results = #[.cell a ty, .tmp u]) (tmps : Array Value) (w : World) (b : Nat) (cs : List Value) (d : TypeDesc) (ha : tmps.getD a undef = .pointer (some ⟨b, 0, none⟩)) (hc : w.rangeAt b 0 cs)
    (hu : P.underlying ty = some d) (hd : d.isRow = true) (hi : (P.info? ty).map (·.size) = some cs.length) : (results fn tmps).run P w = .ok (.tuple #[.agg cs.toArray, tmps.getD u undef]) w := by
  have h1 := run_loadVar_mid (P := P) w b 0 ty cs d hc hu hd hi
  simp only [results, h]
  simp only [List.mapM_toArray, List.mapM_cons, List.mapM_nil, ha, Sem.run_bind, Sem.run_pure, run_asAddr, Result.andThen_ok, h1, Sem.run_map, pure_bind, bind_pure]
  simp [h1, run_asAddr]
/-- A result: a struct in a cell. -/
theorem results_cell {P : Program} {fn : Func} {a : Tmp} {ty : TypeId} (h : fn.results = #[.cell a ty]) (tmps : Array Value) (w : World) (b : Nat) (cs : List Value) (d : TypeDesc) (ha : tmps.getD a undef = .pointer (some ⟨b, 0, none⟩)) (hc : w.rangeAt b 0 cs)
    (hu : P.underlying ty = some d) (hd : d.isRow = true) (hi : (P.info? ty).map (·.size) = some cs.length) : (results fn tmps).run P w = .ok (.agg cs.toArray) w := by
  have h1 := run_loadVar_mid (P := P) w b 0 ty cs d hc hu hd hi
  have ha' : tmps[a]?.getD undef = .pointer (some ⟨b, 0, none⟩) := by simpa using ha
  simp only [results, h]
  simp [ha', h1, run_asAddr]

end Go.Proofs.YtfceodpdipniaaaDoor
