/-
 What is proved here: what the statements' concrete returns.
-/
import Derived.Test.YtebklpnkcicpjaaDoorRlIn
import Derived.BigRegion
import Derived.BigQuiet
import Derived.Great.BuildSlice
import Derived.Deep.RegionHeld3
namespace Go.Proofs.YtebklpnkcicpjaaDoor
open Go.RowKit
set_option linter.unusedVariables false
set_option linter.unusedSimpArgs false

theorem infoI32 : (Tryd.prog.info? 21).map (fun i => (i.zero, i.size, i.bytes)) = some (some (.int .i32 0), 1, 4) := by kernel_rfl
structure Wds (w : World) (v : Value) (l : List Int) : Prop where
 wd : ∀ x ∈ l, W32 x
 at_ : ∃ A cap, v = .slice A l.length cap ∧ l.length ≤ cap ∧ cap ≤ maxLen ∧ (0 < l.length → ∃ b off, A = some ⟨b, off, none⟩ ∧ b < w.heap.size ∧ ∀ i, i < l.length → w.cell? ⟨b, off + i, none⟩ = some (.int .i32 (l.getD i 0)))
theorem Wds.below {w w' : World} {v : Value} {l : List Int} (h : Wds w v l) (hb : Below w.heap.size w w') : Wds w' v l := by
 obtain ⟨A, cap, h1, h2, h3, h4⟩ := h.at_
 refine ⟨h.wd, A, cap, h1, h2, h3, fun h0 => ?_⟩
 obtain ⟨b, off, ha, hlt, hc⟩ := h4 h0
 exact ⟨b, off, ha, by have := hb.size; omega, fun i hi => (hb.cell (p := ⟨b, off + i, none⟩) hlt).trans (hc i hi)⟩
def conV (x : Int × Int) (l : List Int) (k : Nat) : Int := x.1 + (if k < l.length then (l.getD k 0 % 4294967296) % (x.2 - x.1 + 1) else 0)
theorem conV_mem {x : Int × Int} (h : x.1 ≤ x.2) (l : List Int) (k : Nat) : Mem (conV x l k) x := by
 unfold conV Mem
 split
 ·have h1 := Int.emod_nonneg (l.getD k 0 % 4294967296) (show x.2 - x.1 + 1 ≠ 0 by omega)
  have h2 := Int.emod_lt_of_pos (l.getD k 0 % 4294967296) (show 0 < x.2 - x.1 + 1 by omega)
  omega
 ·omega
def conR (r : RG) (l : List Int) (n : Nat) : List Int := (List.range 16).map fun k => if k < n then conV (rg r (k : Int)) l k else 0
theorem conR_zero (r : RG) (l : List Int) : conR r l 0 = [0, 0, 0, 0, 0, 0, 0, 0, 0, 0, 0, 0, 0, 0, 0, 0] := by
 unfold conR
 rw [show (List.range 16) = [0, 1, 2, 3, 4, 5, 6, 7, 8, 9, 10, 11, 12, 13, 14, 15] from rfl]
 simp
theorem conR_len (r : RG) (l : List Int) (n : Nat) : (conR r l n).length = 16 := by simp [conR]
theorem properR_at {r : RG} (h : properR r = true) (k : Int) : (rg r k).1 ≤ (rg r k).2 ∧ True := by
 refine ⟨?_, trivial⟩
 unfold properR at h
 rw [Bool.and_eq_true, List.all_eq_true] at h
 unfold rg
 by_cases hk : k.toNat < r.length
 ·rw [show r.getD k.toNat (0, 0) = r[k.toNat] by simp [List.getD, List.getElem?_eq_getElem hk]]
  exact of_decide_eq_true (h.1 _ (List.getElem_mem hk))
 ·rw [show r.getD k.toNat (0, 0) = (0, 0) by simp [List.getD, List.getElem?_eq_none (Nat.le_of_not_lt hk)]]
  exact Int.le_refl _
theorem conV_wd {r : RG} (hr : R16 r) (hp : properR r = true) (l : List Int) (k : Nat) : W32 (conV (rg r (k : Int)) l k) := by
 obtain ⟨h1, h2⟩ := hr.at_ (k : Int)
 have h3 := conV_mem (properR_at hp (k : Int)).1 l k
 unfold W32 at *
 unfold Mem at h3
 omega
theorem conR_wd {r : RG} (hr : R16 r) (hp : properR r = true) (l : List Int) (n : Nat) : ∀ x ∈ conR r l n, W32 x := by
 intro x hx
 unfold conR at hx
 obtain ⟨k, _, rfl⟩ := List.mem_map.1 hx
 split
 ·exact conV_wd hr hp l k
 ·unfold W32; omega
theorem conR_succ (r : RG) (l : List Int) {n : Nat} (hn : n < 16) : conR r l (n + 1) = (conR r l n).set n (conV (rg r (n : Int)) l n) := by
 apply List.ext_getElem?
 intro i
 unfold conR
 rw [List.getElem?_map, List.getElem?_set, List.length_map, List.length_range, List.getElem?_map]
 by_cases hi : i < 16
 ·rw [List.getElem?_range hi]
  by_cases e : n = i
  ·subst e; simp [hn]
  ·rw [if_neg e]
   simp only [Option.map_some]
   congr 1
   by_cases h : i < n
   ·rw [if_pos h, if_pos (by omega)]
   ·rw [if_neg h, if_neg (by omega)]
 ·rw [List.getElem?_eq_none (by simp; omega)]
  simp
  intro e
  omega
theorem conR_in {r : RG} (hp : properR r = true) (l : List Int) : InR (conR r l 16) r := fun k hk => by
 have e : (conR r l 16).getD k 0 = conV (rg r (k : Int)) l k := by
  unfold conR
  simp [List.getD, hk]
 rw [e]
 exact conV_mem (properR_at hp _).1 l k
theorem made8 : madeCells (Value.int .i32 0).cells (Int.toNat 8 * 1) = #[.int .i32 0, .int .i32 0, .int .i32 0, .int .i32 0, .int .i32 0, .int .i32 0, .int .i32 0, .int .i32 0] := by kernel_rfl
theorem wpList_make_run {P : Program} {ops : Array Oper} {rest : List Oper} {o : Oper} {a : Act} {w : World} {Q : Exit → Act → World → Prop} (hgd : o.guard = none) (t : TypeId) (x y : Operand) (ho : o.op = .makeSlice t x y) (u z : Value) (hx : a.eval x = u) (hy : a.eval y = z) (v : Value) (w' : World) (hr : (Instr.makeSlice t u z).run P w = .ok v w')
  (h : wpList P ops Q rest (a.put o.dst v) w') : wpList P ops Q (o :: rest) a w := by
 subst hx hy
 refine wpList_plain hgd fun K hK => ?_
 unfold Oper.wp
 simp [execOp, ho, hr, Result.andThen]
 exact hK _ _ h
theorem built_st (p : Option Addr) : Tryd.prog.built 34 [(2, .slice p 8 8), (4, .int .i64 (-1))] = some #[.int .i64 0, .int .i32 0, .int .i32 0, .int .i32 0, .int .i32 0, .int .i32 0, .int .i32 0, .int .i32 0, .int .i32 0, .int .i32 0, .int .i32 0, .int .i32 0, .int .i32 0, .int .i32 0, .int .i32 0, .int .i32 0, .int .i32 0, .slice p 8 8, .bool false, .int .i64 (-1)] := by kernel_rfl
theorem five_new (w : World) {V : World} (cA cB cC cD cE : Array Value) (tA tB tC tD tE : TypeId) (h : ((((w.alloc (.cells cA tA)).alloc (.cells cB tB)).alloc (.cells cC tC)).alloc (.cells cD tD)).alloc (.cells cE tE) = V) :
  V.heap[w.heap.size]? = some (.cells cA tA (0, 0)) ∧ V.heap[w.heap.size + 1]? = some (.cells cB tB (0, 0)) ∧ V.heap[w.heap.size + 1 + 1]? = some (.cells cC tC (0, 0)) ∧ V.heap[w.heap.size + 1 + 1 + 1]? = some (.cells cD tD (0, 0)) ∧ V.heap[w.heap.size + 1 + 1 + 1 + 1]? = some (.cells cE tE (0, 0)) ∧ Below w.heap.size w V ∧ V.heap.size = w.heap.size + 1 + 1 + 1 + 1 + 1 := by
 subst h
 obtain ⟨V, e, h0, h1, h2, h3, hb, hs⟩ := four_new w cA cB cC cD tA tB tC tD
 have hs4 : V.heap.size = w.heap.size + 1 + 1 + 1 + 1 := by rw [← e]; simp
 rw [e]
 refine ⟨?_, ?_, ?_, ?_, ?_, hb.alloc hb.size _, by simp [hs4]⟩
 ·rw [heap_alloc_old _ _ (by omega)]; exact h0
 ·rw [heap_alloc_old _ _ (by omega)]; exact h1
 ·rw [heap_alloc_old _ _ (by omega)]; exact h2
 ·rw [heap_alloc_old _ _ (by omega)]; exact h3
 ·rw [← hs4]; exact heap_alloc_new _ _
def ConPost (w : World) (op ia ib ic im : Int) (r : RG) (ol : List Int) (e : Ending) (w' : World) : Prop :=
 ∃ c : Nat, e = .returned (.tuple #[.agg (St.mk 0 (conR r ol 16) (.slice (some ⟨c + 1 + 1 + 1, 0, none⟩) 8 8) false (-1)).cells, .agg #[.slice (some ⟨c, 0, none⟩) 1 1, .slice (some ⟨c + 1, 0, none⟩) 1 1, .int .i64 4, .int .i64 4]]) ∧ Below w.heap.size w w' ∧ w.heap.size ≤ c ∧
  w'.heap[c]? = some (.cells #[.int .u32 (encI ⟨op, ia, ib, ic, im⟩).1] 67 (0, 0)) ∧ w'.heap[c + 1]? = some (.cells #[.string ⟨#[116, 97]⟩, .int .i64 0, .int .i64 1, .int .i64 8] 102 (0, 0)) ∧
  w'.heap[c + 1 + 1 + 1]? = some (.cells #[.int .i32 0, .int .i32 0, .int .i32 0, .int .i32 0, .int .i32 0, .int .i32 0, .int .i32 0, .int .i32 0] 21 (0, 0))
theorem results_cell2 {P : Program} {fn : Func} {a u : Tmp} {ty tz : TypeId} (h : fn.results = #[.cell a ty, .cell u tz]) (tmps : Array Value) (w : World) (b c : Nat) (cs ds : List Value) (d d' : TypeDesc) (ha : tmps.getD a undef = .pointer (some ⟨b, 0, none⟩)) (hu' : tmps.getD u undef = .pointer (some ⟨c, 0, none⟩)) (hc : w.rangeAt b 0 cs) (hd' : w.rangeAt c 0 ds)
  (hu : P.underlying ty = some d) (hd : d.isRow = true) (hi : (P.info? ty).map (·.size) = some cs.length) (hu2 : P.underlying tz = some d') (hd2 : d'.isRow = true) (hi2 : (P.info? tz).map (·.size) = some ds.length) : (results fn tmps).run P w = .ok (.tuple #[.agg cs.toArray, .agg ds.toArray]) w := by
 have h1 := run_loadVar_mid (P := P) w b 0 ty cs d hc hu hd hi
 have h2 := run_loadVar_mid (P := P) w c 0 tz ds d' hd' hu2 hd2 hi2
 simp only [results, h]
 simp only [List.mapM_toArray, List.mapM_cons, List.mapM_nil, ha, hu', Sem.run_bind, Sem.run_pure, run_asAddr, Result.andThen_ok, h1, h2, Sem.run_map, pure_bind, bind_pure]
 simp [h1, h2, run_asAddr]
theorem st_cells_len {s : St} (h : s.r.length = 16) : s.cells.toList.length = 20 := by simp [St.cells, h]
theorem there_block {w : World} {b n : Nat} {cs : Array Value} {T : TypeId} (h : w.heap[b]? = some (.cells cs T (0, 0))) (hn : n ≤ cs.size) : w.there b 0 n := fun j hj => by
 constructor
 ·simp [World.cell?, h, show j < cs.size by omega]
 ·simp [World.frozen?, h]
set_option maxRecDepth 100000 in
set_option maxHeartbeats 8000000 in
theorem concrete_any (op ia ib ic im : Int) (h0 : 0 ≤ op) (r : RG) (hr : R16 r) (pr : properR r = true) (ov : Value) (ol : List Int) (w : World) (T : Tab w) (HO : Wds w ov ol) :
  Calls Tryd.prog 12 #[.agg #[.int .u8 op, .int .i64 ia, .int .i64 ib, .int .i64 ic, .int .i64 im], .agg (cellsR r).toArray, ov] w (ConPost w op ia ib ic im r ol) := by
 unfold ConPost
 obtain ⟨V, hV, k0, k1, k2, k3, bV, sV⟩ := four_new w #[.int .u8 op, .int .i64 ia, .int .i64 ib, .int .i64 ic, .int .i64 im] (cellsR r).toArray #[.int .i64 0, .int .i32 0, .int .i32 0, .int .i32 0, .int .i32 0, .int .i32 0, .int .i32 0, .int .i32 0, .int .i32 0, .int .i32 0, .int .i32 0, .int .i32 0, .int .i32 0, .int .i32 0, .int .i32 0, .int .i32 0, .int .i32 0, .slice none 0 0, .bool false, .int .i64 0] #[.slice none 0 0, .slice none 0 0, .int .i64 0, .int .i64 0] 23 27 34 38
 obtain ⟨z0, z1, z2, z3, z4, l0⟩ := ins_block k0
 have kV : RBox V (w.heap.size + 1) 27 r := k1
 have KV := Lib.hid kV
 have HRG := Lib.hid kV.range
 have K2 := Lib.hid k2
 have K3 := Lib.hid k3
 have BV := Lib.hid bV
 have SV := Lib.hid sV
 have R := Lib.hid hr
 have PR := Lib.hid pr
 have HT := Lib.hid (T.below bV)
 have HOV := Lib.hid (HO.below bV)
 obtain ⟨OA, ocap, hov, o1, o2, -⟩ := HO.at_
 have o2' := max_63 o2
 obtain ⟨on, hon⟩ : ∃ m, ol.length = m := ⟨_, rfl⟩
 rw [hon] at hov o1
 subst hov
 have HON := Lib.hid hon
 have HEN := Lib.hid (show Calls Tryd.prog 34 #[.agg #[.int .u8 op, .int .i64 ia, .int .i64 ib, .int .i64 ic, .int .i64 im]] V fun e w' => e = .returned (.tuple #[.int .u32 (encI ⟨op, ia, ib, ic, im⟩).1, .int .i64 (encI ⟨op, ia, ib, ic, im⟩).2]) ∧ Below V.heap.size V w' from encode_any ⟨op, ia, ib, ic, im⟩ h0 V HT.out)
 obtain ⟨ec, hec⟩ : ∃ x, (encI ⟨op, ia, ib, ic, im⟩).1 = x := ⟨_, rfl⟩
 obtain ⟨er, her⟩ : ∃ x, (encI ⟨op, ia, ib, ic, im⟩).2 = x := ⟨_, rfl⟩
 rw [hec, her] at HEN
 have HEC := Lib.hid hec
 clear bV kV k0 k1 k2 k3 sV hr pr T HO hec her hon
 obtain ⟨iI, hiI, hI0, hI1, hI2⟩ := info_parts infoI32
 have mk8 : ∀ W, (Instr.makeSlice 28 (.int .i64 8) (.int .i64 8)).run Tryd.prog W = .ok (.slice (some ⟨W.heap.size, 0, none⟩) 8 8) (W.alloc (.cells #[.int .i32 0, .int .i32 0, .int .i32 0, .int .i32 0, .int .i32 0, .int .i32 0, .int .i32 0, .int .i32 0] 21)) := fun W => by
  have hr := run_make (P := Tryd.prog) W 28 21 iI _ Tryd.underlying28 hiI hI0 .i64 .i64 8 8 (by omega) (Int.le_refl _) (by rw [hI2]; omega) (by omega)
  rw [hI1] at hr
  rw [hr, made8]
  rfl
 clear hiI hI0 hI1 hI2
 go_enter Tryd.func12, Tryd.ntmps12
 go_upto_region 4 with (first | (go_at_call 34; refine HEN.out.mono ?_; rintro e W1 ⟨rfl, hb1⟩) | (refine wpList_buildTo rfl 34 _ rfl (some 26) rfl _ (built_st _) ?_) | (refine wpList_store_row rfl 34 (.tmp 11) (.tmp 26) rfl (W1.heap.size + 1 + 1 + 1 + 1) #[.int .i64 0, .int .i32 0, .int .i32 0, .int .i32 0, .int .i32 0, .int .i32 0, .int .i32 0, .int .i32 0, .int .i32 0, .int .i32 0, .int .i32 0, .int .i32 0, .int .i32 0, .int .i32 0, .int .i32 0, .int .i32 0, .int .i32 0, .slice (some ⟨W1.heap.size + 1 + 1 + 1, 0, none⟩) 8 8, .bool false, .int .i64 (-1)] rfl rfl 34 _ (heap_alloc_at _ _ (by simp only [World.size_alloc])) (by kernel_rfl) rfl (by simp [Value.oneCell']) ?_) | (refine wpList_make_run rfl 28 _ _ rfl (.int .i64 8) (.int .i64 8) rfl rfl _ _ (mk8 _) ?_))
 obtain ⟨X9, hX9⟩ : ∃ X, ((((W1.alloc (.cells #[.int .u32 ec] 67)).alloc (.cells #[.string ⟨#[116, 97]⟩, .int .i64 0, .int .i64 1, .int .i64 8] 102)).alloc (.cells #[.slice (some ⟨W1.heap.size, 0, none⟩) 1 1, .slice (some ⟨W1.heap.size + 1, 0, none⟩) 1 1, .int .i64 4, .int .i64 4] 38)).alloc (.cells #[.int .i32 0, .int .i32 0, .int .i32 0, .int .i32 0, .int .i32 0, .int .i32 0, .int .i32 0, .int .i32 0] 21)).alloc (.cells #[.int .i64 0, .int .i32 0, .int .i32 0, .int .i32 0, .int .i32 0, .int .i32 0, .int .i32 0, .int .i32 0, .int .i32 0, .int .i32 0, .int .i32 0, .int .i32 0, .int .i32 0, .int .i32 0, .int .i32 0, .int .i32 0, .int .i32 0, .slice none 0 0, .bool false, .int .i64 0] 34) = X := ⟨_, rfl⟩
 rw [hX9]
 obtain ⟨v0, v1, v2, v3, v4, bX9, sX9⟩ := five_new W1 #[.int .u32 ec] #[.string ⟨#[116, 97]⟩, .int .i64 0, .int .i64 1, .int .i64 8] #[.slice (some ⟨W1.heap.size, 0, none⟩) 1 1, .slice (some ⟨W1.heap.size + 1, 0, none⟩) 1 1, .int .i64 4, .int .i64 4] #[.int .i32 0, .int .i32 0, .int .i32 0, .int .i32 0, .int .i32 0, .int .i32 0, .int .i32 0, .int .i32 0] #[.int .i64 0, .int .i32 0, .int .i32 0, .int .i32 0, .int .i32 0, .int .i32 0, .int .i32 0, .int .i32 0, .int .i32 0, .int .i32 0, .int .i32 0, .int .i32 0, .int .i32 0, .int .i32 0, .int .i32 0, .int .i32 0, .int .i32 0, .slice none 0 0, .bool false, .int .i64 0] 67 102 38 21 34 hX9
 obtain ⟨X, hX⟩ : ∃ X, X9.setRow (W1.heap.size + 1 + 1 + 1 + 1) #[.int .i64 0, .int .i32 0, .int .i32 0, .int .i32 0, .int .i32 0, .int .i32 0, .int .i32 0, .int .i32 0, .int .i32 0, .int .i32 0, .int .i32 0, .int .i32 0, .int .i32 0, .int .i32 0, .int .i32 0, .int .i32 0, .int .i32 0, .slice (some ⟨W1.heap.size + 1 + 1 + 1, 0, none⟩) 8 8, .bool false, .int .i64 (-1)] = X := ⟨_, rfl⟩
 rw [hX]
 have bX : Below W1.heap.size W1 X := hX ▸ below_setRow bX9 (by omega) _
 have sX : X.heap.size = W1.heap.size + 1 + 1 + 1 + 1 + 1 := by rw [← hX, ← sX9]; simp [World.setRow]
 have x0 := (show X.heap[W1.heap.size]? = _ from hX ▸ (setRow_other X9 _ _ _ (by omega))).trans v0
 have x1 := (show X.heap[W1.heap.size + 1]? = _ from hX ▸ (setRow_other X9 _ _ _ (by omega))).trans v1
 have x2 := (show X.heap[W1.heap.size + 1 + 1]? = _ from hX ▸ (setRow_other X9 _ _ _ (by omega))).trans v2
 have x3 := (show X.heap[W1.heap.size + 1 + 1 + 1]? = _ from hX ▸ (setRow_other X9 _ _ _ (by omega))).trans v3
 have x4 : X.heap[W1.heap.size + 1 + 1 + 1 + 1]? = some (.cells #[.int .i64 0, .int .i32 0, .int .i32 0, .int .i32 0, .int .i32 0, .int .i32 0, .int .i32 0, .int .i32 0, .int .i32 0, .int .i32 0, .int .i32 0, .int .i32 0, .int .i32 0, .int .i32 0, .int .i32 0, .int .i32 0, .int .i32 0, .slice (some ⟨W1.heap.size + 1 + 1 + 1, 0, none⟩) 8 8, .bool false, .int .i64 (-1)] 34 (0, 0)) := hX ▸ setRow_heap _ _ _ _ _ _ v4
 clear hX9 v0 v1 v2 v3 v4 bX9 sX9
 obtain ⟨cb, hcb⟩ : ∃ c, W1.heap.size = c := ⟨_, rfl⟩
 have hVc : V.heap.size ≤ cb := by rw [← hcb]; exact hb1.size
 have bVX : Below V.heap.size V X := hb1.trans (bX.mono hb1.size)
 rw [hcb] at x0 x1 x2 x3 x4 sX
 rw [hcb]
 have X0 := Lib.hid x0
 have X1 := Lib.hid x1
 have X2 := Lib.hid x2
 have X3 := Lib.hid x3
 have M4 := Lib.hid (show Mach X (cb + 1 + 1 + 1 + 1) ⟨0, conR r ol 0, .slice (some ⟨cb + 1 + 1 + 1, 0, none⟩) 8 8, false, -1⟩ from ⟨by rw [x4, conR_zero]; rfl, conR_len _ _ _, conR_wd R.out PR.out ol 0⟩)
 have BVX := Lib.hid bVX
 have rgX : X.rangeAt (w.heap.size + 1) 0 (cellsR r) := (KV.out.keep bVX).range
 have HOX := Lib.hid (HOV.out.below bVX)
 have lX1 : w.heap.size + 1 < X.heap.size := by have := bVX.size; omega
 have KX2 := Lib.hid ((bVX.block (w.heap.size + 1 + 1) (by have := SV.out; omega)).trans K2.out)
 have KX3 := Lib.hid ((bVX.block (w.heap.size + 1 + 1 + 1) (by have := SV.out; omega)).trans K3.out)
 clear hX x0 x1 x2 x3 x4 bX hb1 hcb bVX HEN z0 z1 z2 z3 z4 hV K2 K3 KV HRG mk8
 go_upto_region 5 with (first | (refine wpList_load_mid rfl _ _ rfl _ _ rfl (cellsR r) _ rgX Tryd.underlying27 rfl (hi3 R.out.len) ?_))
 clear rgX
 go_loopw [28] (fun a28 wr => ∃ k : Nat, k ≤ 16 ∧ a28 = .int .i64 (k : Int) ∧ Mach wr (cb + 1 + 1 + 1 + 1) ⟨0, conR r ol k, .slice (some ⟨cb + 1 + 1 + 1, 0, none⟩) 8 8, false, -1⟩ ∧ Fr (· = cb + 1 + 1 + 1 + 1) X wr) (fun a28 _ => 16 - (intOf a28).toNat)
 case atStart => exact ⟨0, by omega, rfl, M4.out, Fr.refl _ _⟩
 case round =>
  obtain ⟨k, hk, rfl, hm, hb⟩ := hrel
  have HM := Lib.hid hm
  have HB := Lib.hid hb
  have hsz := hb.size
  clear hm hb
  by_cases hlt : k < 16
  ·have dl : decide ((k : Int) < 16) = true := decide_eq_true (by omega)
   have dk2 : decide ((16 : Int) ≤ (k : Int)) = false := decide_eq_false (by omega)
   have dk3 : (k : Int) < 16 := by omega
   have hix := index_regs R.out.len hlt
   obtain ⟨lo, hlo⟩ : ∃ lo, (rg r (k : Int)).1 = lo := ⟨_, rfl⟩
   obtain ⟨hi, hhi⟩ : ∃ hi, (rg r (k : Int)).2 = hi := ⟨_, rfl⟩
   rw [hlo, hhi] at hix
   obtain ⟨wl, wh⟩ := R.out.at_ (k : Int)
   rw [hlo] at wl
   rw [hhi] at wh
   have hle : lo ≤ hi := by rw [← hlo, ← hhi]; exact (properR_at PR.out (k : Int)).1
   unfold W32 at wl wh
   have HLO := Lib.hid hlo
   have HHI := Lib.hid hhi
   have c1 : IntKind.i64.wrap lo = lo := IntWalk.i64_in _ (by omega)
   have lw : cb + 1 + 1 + 1 + 1 < wr.heap.size := HM.out.lt
   clear hlo hhi
   go_upto_region 8 with fail
   obtain ⟨Z, hZ⟩ : ∃ Z, wr.alloc (.cells #[.int .i32 lo, .int .i32 hi] 25) = Z := ⟨_, rfl⟩
   rw [hZ]
   have bZ : Below wr.heap.size wr Z := hZ ▸ (Below.refl _ _).alloc (Nat.le_refl _) _
   have kZ : Z.heap[wr.heap.size]? = some (.cells #[.int .i32 lo, .int .i32 hi] 25 (0, 0)) := hZ ▸ heap_alloc_new _ _
   obtain ⟨q, hq⟩ : ∃ q, wr.heap.size = q := ⟨_, rfl⟩
   rw [hq] at kZ
   rw [hq]
   have q0 : Z.cell? ⟨q, 0, none⟩ = some (.int .i32 lo) := by simp [World.cell?, kZ]
   have q1 : Z.cell? ⟨q, 1, none⟩ = some (.int .i32 hi) := by simp [World.cell?, kZ]
   have HMZ := Lib.hid (HM.out.keep (bZ.block _ HM.out.lt))
   have HBZ := Lib.hid (HB.out.trans (Fr.of bZ))
   have lZ : cb + 1 + 1 + 1 + 1 < Z.heap.size := HMZ.out.lt
   clear hZ bZ kZ hq
   by_cases hko : k < on
   ·have dk : decide ((k : Int) < (on : Int)) = true := decide_eq_true (by omega)
    obtain ⟨oq, oo, hOA, hoq, hoc⟩ : ∃ q o, OA = some ⟨q, o, none⟩ ∧ q < V.heap.size ∧ ∀ i, i < on → V.cell? ⟨q, o + i, none⟩ = some (.int .i32 (ol.getD i 0)) := by
     obtain ⟨A, c, e1, e2, e3, e4⟩ := HOV.out.at_
     cases e1
     rw [HON.out] at e4
     exact e4 (by omega)
    subst hOA
    obtain ⟨x, hx⟩ : ∃ x, ol.getD k 0 = x := ⟨_, rfl⟩
    have HX := Lib.hid hx
    have wx : W32 x := by
     rw [← hx, show ol.getD k 0 = ol[k]'(by rw [HON.out]; exact hko) by simp [List.getD, List.getElem?_eq_getElem (show k < ol.length by rw [HON.out]; exact hko)]]
     exact HOV.out.wd _ (List.getElem_mem _)
    unfold W32 at wx
    have c5 : Z.cell? ⟨oq, oo + k, none⟩ = some (.int .i32 x) := by
     rw [← hx]
     exact (HBZ.out.cell (oo + k) (by have := BVX.out.size; omega) (by intro e; have e' : oq = cb + 1 + 1 + 1 + 1 := e; omega)).trans ((BVX.out.cell (p := ⟨oq, oo + k, none⟩) hoq).trans (hoc k hko))
    have loq : oq < Z.heap.size := by omega
    have dn1 : ((k : Int) < 0) = False := by simp
    have dn2 : decide ((on : Int) ≤ (k : Int)) = false := decide_eq_false (by omega)
    have dn3 : (k : Int) < (on : Int) := by omega
    obtain ⟨u, hu⟩ : ∃ u, x % 4294967296 = u := ⟨_, rfl⟩
    have hu0 : 0 ≤ u := by omega
    have hu1 : u < 4294967296 := by omega
    have HU := Lib.hid hu
    have f1 : IntKind.u32.wrap x = u := by rw [← hu]; rfl
    have f2 : IntKind.i64.wrap u = u := IntWalk.i64_in _ (by omega)
    have f3 : IntKind.i64.wrap hi = hi := IntWalk.i64_in _ (by omega)
    have f4 : IntKind.i64.wrap (hi - lo) = hi - lo := IntWalk.i64_in _ (by omega)
    obtain ⟨m, hm⟩ : ∃ m, hi - lo + 1 = m := ⟨_, rfl⟩
    have hm1 : 0 < m := by omega
    have hm2 : m ≤ 4294967296 := by omega
    have f5 : IntKind.i64.wrap (hi - lo + 1) = m := by rw [hm]; exact IntWalk.i64_in _ (by omega)
    have f6 : Int.tmod u m = u % m := Int.tmod_eq_emod_of_nonneg hu0
    have g1 := Int.emod_nonneg u (show m ≠ 0 by omega)
    have g2 := Int.emod_lt_of_pos u hm1
    obtain ⟨t, ht⟩ : ∃ t, u % m = t := ⟨_, rfl⟩
    rw [ht] at f6 g1 g2
    have f7 : IntKind.i64.wrap t = t := IntWalk.i64_in _ (by omega)
    have f8 : IntKind.i64.wrap (lo + t) = lo + t := IntWalk.i64_in _ (by omega)
    have f9 : IntKind.i32.wrap (lo + t) = lo + t := IntWalk.i32_in _ (by omega)
    have hm0 : (m = 0) = False := by simp; omega
    have hm3 : ¬ m = 0 := by omega
    have CV := Lib.hid (show conV (rg r (k : Int)) ol k = lo + t by
     unfold conV
     rw [HLO.out, HHI.out, if_pos (by rw [HON.out]; exact hko), HX.out, HU.out, hm, ht])
    have hml : m ≤ hi - lo + 1 := by omega
    clear hx hu hm ht hoc wx hm1
    go_upto_region 9 with fail
    go_quiet (fail)
    obtain ⟨Y, hY⟩ : ∃ Y, Z.drewN nq = Y := ⟨_, rfl⟩
    rw [hY]
    have HMY := Lib.hid (show Mach Y (cb + 1 + 1 + 1 + 1) ⟨0, conR r ol k, .slice (some ⟨cb + 1 + 1 + 1, 0, none⟩) 8 8, false, -1⟩ from hY ▸ HMZ.out.keep rfl)
    have HBY := Lib.hid (show Fr (· = cb + 1 + 1 + 1 + 1) X Y from hY ▸ HBZ.out.trans (Fr.of (drewN_below _ _)))
    have yc : Y.cell? ⟨cb + 1 + 1 + 1 + 1, 1 + k, none⟩ = _ := HMY.out.reg hlt
    have yf : Y.frozen? ⟨cb + 1 + 1 + 1 + 1, 1 + k, none⟩ = false := HMY.out.fz _
    have yl : cb + 1 + 1 + 1 + 1 < Y.heap.size := HMY.out.lt
    clear hY
    go_wp2_with fail
    go_roundw
    case rel =>
     refine ⟨k + 1, by omega, by go_num, ?_, HBY.out.set _ (.inl rfl)⟩
     rw [conR_succ _ _ hlt, CV.out]
     exact HMY.out.setReg hlt (by unfold W32; omega)
    case measure => simp [intOf]; omega
   ·have dk : decide ((k : Int) < (on : Int)) = false := decide_eq_false (by omega)
    have f9 : IntKind.i32.wrap lo = lo := IntWalk.i32_in _ (by omega)
    have CV := Lib.hid (show conV (rg r (k : Int)) ol k = lo by
     unfold conV
     rw [HLO.out, if_neg (by rw [HON.out]; exact hko)]; omega)
    obtain ⟨Y, hY⟩ : ∃ Y, Z = Y := ⟨_, rfl⟩
    rw [hY]
    have HMY := Lib.hid (show Mach Y (cb + 1 + 1 + 1 + 1) ⟨0, conR r ol k, .slice (some ⟨cb + 1 + 1 + 1, 0, none⟩) 8 8, false, -1⟩ from hY ▸ HMZ.out.keep rfl)
    have HBY := Lib.hid (show Fr (· = cb + 1 + 1 + 1 + 1) X Y from hY ▸ HBZ.out.trans (Fr.of (Below.refl _ _)))
    have yc : Y.cell? ⟨cb + 1 + 1 + 1 + 1, 1 + k, none⟩ = _ := HMY.out.reg hlt
    have yf : Y.frozen? ⟨cb + 1 + 1 + 1 + 1, 1 + k, none⟩ = false := HMY.out.fz _
    have yl : cb + 1 + 1 + 1 + 1 < Y.heap.size := HMY.out.lt
    clear hY
    go_wp2_with fail
    go_roundw
    case rel =>
     refine ⟨k + 1, by omega, by go_num, ?_, HBY.out.set _ (.inl rfl)⟩
     rw [conR_succ _ _ hlt, CV.out]
     exact HMY.out.setReg hlt (by unfold W32; omega)
    case measure => simp [intOf]; omega
  ·obtain rfl : k = 16 := by omega
   have dl : decide ((16 : Int) < 16) = false := by decide
   go_upto_region 12 with fail
   obtain ⟨Y, hY⟩ : ∃ Y : World, Y = wr := ⟨_, rfl⟩
   subst hY
   obtain ⟨st, hst⟩ : ∃ st : St, (⟨0, conR r ol 16, .slice (some ⟨cb + 1 + 1 + 1, 0, none⟩) 8 8, false, -1⟩ : St) = st := ⟨_, rfl⟩
   have hM := HM.out
   rw [hst] at hM
   have hl20 : st.cells.toList.length = 20 := st_cells_len hM.len
   have ho20 : ∀ v ∈ st.cells.toList, v.oneCell' = true := by
    intro v hv
    unfold St.cells at hv
    simp only [List.mem_cons, List.mem_append, List.mem_map, List.not_mem_nil, or_false] at hv
    rcases hv with rfl | ⟨x, _, rfl⟩ | rfl | rfl | rfl <;> first | rfl | (rw [← hst]; rfl)
   have hi20 : (Tryd.prog.info? 34).map (·.size) = some st.cells.toList.length := by rw [hl20]; kernel_rfl
   have hu20 := Tryd.underlying34
   have rY : Y.rangeAt (cb + 1 + 1 + 1 + 1) 0 st.cells.toList := rangeAt_block hM.blk
   have lcb : V.heap.size ≤ cb := hVc
   have sVl := SV.out
   have k6 : Y.heap[w.heap.size + 1 + 1]? = _ := (HB.out.block _ (by have := BVX.out.size; omega) (by omega)).trans KX2.out
   have k7 : Y.heap[w.heap.size + 1 + 1 + 1]? = _ := (HB.out.block _ (by have := BVX.out.size; omega) (by omega)).trans KX3.out
   have kI : Y.heap[cb + 1 + 1]? = _ := (HB.out.block _ (lt_of_blk' X2.out) (by omega)).trans X2.out
   have t6 : Y.there (w.heap.size + 1 + 1) 0 20 := there_block k6 (by simp)
   have c0 : Y.cell? ⟨cb + 1 + 1, 0, none⟩ = some (.slice (some ⟨cb, 0, none⟩) 1 1) := by simp [World.cell?, kI]
   have c1 : Y.cell? ⟨cb + 1 + 1, 1, none⟩ = some (.slice (some ⟨cb + 1, 0, none⟩) 1 1) := by simp [World.cell?, kI]
   have c2 : Y.cell? ⟨cb + 1 + 1, 2, none⟩ = some (.int .i64 4) := by simp [World.cell?, kI]
   have c3 : Y.cell? ⟨cb + 1 + 1, 3, none⟩ = some (.int .i64 4) := by simp [World.cell?, kI]
   have f0 : ∀ o, Y.frozen? ⟨w.heap.size + 1 + 1 + 1, o, none⟩ = false := fun o => by simp [World.frozen?, k7]
   have HYB := Lib.hid HB.out
   have HK6 := Lib.hid k6
   have HK7 := Lib.hid k7
   have HMY := Lib.hid hM
   have HST := Lib.hid hst
   have lY7 : w.heap.size + 1 + 1 + 1 < Y.heap.size := lt_of_blk' k7
   obtain ⟨il, hil⟩ : ∃ l : List Value, [Value.slice (some ⟨cb, 0, none⟩) 1 1, .slice (some ⟨cb + 1, 0, none⟩) 1 1, .int .i64 4, .int .i64 4] = l := ⟨_, rfl⟩
   have hl4 : il.length = 4 := by rw [← hil]; rfl
   have rI : Y.rangeAt (cb + 1 + 1) 0 il := by rw [← hil]; exact rangeAt_block kI
   have ho4 : ∀ v ∈ il, v.oneCell' = true := by
    rw [← hil]
    intro v hv
    simp only [List.mem_cons, List.not_mem_nil, or_false] at hv
    rcases hv with rfl | rfl | rfl | rfl <;> rfl
   have hi4 : (Tryd.prog.info? 38).map (·.size) = some il.length := by rw [hl4]; kernel_rfl
   have hu38 := Tryd.underlying38
   have hi20a : (Tryd.prog.info? 34).map (·.size) = some st.cells.toList.toArray.size := by rw [hi20, List.size_toArray]
   have hi4a : (Tryd.prog.info? 38).map (·.size) = some il.toArray.size := by rw [hi4, List.size_toArray]
   have sz20 : st.cells.toList.toArray.size = 20 := by rw [List.size_toArray]; exact hl20
   have sz4 : il.toArray.size = 4 := by rw [List.size_toArray]; exact hl4
   have t7 : Y.there (w.heap.size + 1 + 1 + 1) 0 4 := there_block k7 (by simp)
   have al20 : st.cells.toList.toArray.all (·.oneCell') = true := all_oneCell_toArray ho20
   have al4 : il.toArray.all (·.oneCell') = true := all_oneCell_toArray ho4
   have HIL := Lib.hid hil
   have n67 : w.heap.size + 1 + 1 ≠ w.heap.size + 1 + 1 + 1 := by omega
   have KEEP1 := Lib.hid (show ∀ W : World, (W.rangeAt (cb + 1 + 1 + 1 + 1) 0 st.cells.toList ∧ W.rangeAt (cb + 1 + 1) 0 il ∧ W.there (w.heap.size + 1 + 1) 0 20 ∧ W.there (w.heap.size + 1 + 1 + 1) 0 4) → ∀ b, (b = w.heap.size + 1 + 1 ∨ b = w.heap.size + 1 + 1 + 1) → ∀ l : List Value,
     ((W.setCells b 0 l).rangeAt (cb + 1 + 1 + 1 + 1) 0 st.cells.toList ∧ (W.setCells b 0 l).rangeAt (cb + 1 + 1) 0 il ∧ (W.setCells b 0 l).there (w.heap.size + 1 + 1) 0 20 ∧ (W.setCells b 0 l).there (w.heap.size + 1 + 1 + 1) 0 4) from fun W hW b hb l =>
    ⟨World.rangeAt_setCells_apart hW.1 _ _ _ (.inl (by omega)), World.rangeAt_setCells_apart hW.2.1 _ _ _ (.inl (by omega)), World.there_setCells hW.2.2.1 _ _ _, World.there_setCells hW.2.2.2 _ _ _⟩)
   clear k6 k7 kI hM hst f0 HM HB hil c0 c1 c2 c3
   refine wp_region_held_drew (S := fun w' => w'.rangeAt (cb + 1 + 1 + 1 + 1) 0 st.cells.toList ∧ w'.rangeAt (cb + 1 + 1) 0 il ∧ w'.there (w.heap.size + 1 + 1) 0 20 ∧ w'.there (w.heap.size + 1 + 1 + 1) 0 4) (by kernel_rfl) ?_ (fun hHeld => ?_)
   ·exact ⟨rY, rI, t6, t7⟩
   refine wpAnyH_take (i := 0) (oi := _) (v := _) rfl (by kernel_rfl) (by kernel_rfl) (by kernel_rfl) (fun _ _ _ h => h) (yieldsIf_load_mid (by rfl) _ _ rfl _ _ rfl st.cells.toList _ (fun w hSw => hSw.1) hu20 rfl hi20) hHeld ?_
   (try simp only [List.getElem_toArray, List.getElem_cons_zero, List.getElem_cons_succ, Act.put, List.setIfInBounds_toArray, List.set_cons_zero, List.set_cons_succ])
   refine wpAnyH_take (i := 1) (oi := _) (v := _) rfl (by kernel_rfl) (by kernel_rfl) (by kernel_rfl) (fun _ _ _ h => h) (yieldsIf_load_mid (by rfl) _ _ rfl _ _ rfl il _ (fun w hSw => hSw.2.1) hu38 rfl hi4) hHeld ?_
   (try simp only [List.getElem_toArray, List.getElem_cons_zero, List.getElem_cons_succ, Act.put, List.setIfInBounds_toArray, List.set_cons_zero, List.set_cons_succ])
   refine wpAnyH_ready (rs := [2]) (by kernel_rfl) (by simp) ?_
   refine AllReadyH.cons (o := _) rfl (fun K hK => ?_) AllReadyH.nil
   rw [if_pos (by rfl)]
   refine wp_store_mid _ _ _ rfl _ _ st.cells.toList.toArray rfl rfl (by rw [sz20]; exact hHeld.2.2.1) hi20a al20 ?_
   refine hK.out _ _ (KEEP1.out _ hHeld _ (.inl rfl) _) (fun hHeld2 => ?_)
   clear hK K
   (try simp only [List.getElem_toArray, List.getElem_cons_zero, List.getElem_cons_succ, Act.put, List.setIfInBounds_toArray, List.set_cons_zero, List.set_cons_succ])
   refine wpAnyH_ready (rs := [3]) (by kernel_rfl) (by simp) ?_
   refine AllReadyH.cons (o := _) rfl (fun K hK => ?_) AllReadyH.nil
   rw [if_pos (by rfl)]
   refine wp_store_mid _ _ _ rfl _ _ il.toArray rfl rfl (by rw [sz4]; exact hHeld2.2.2.2) hi4a al4 ?_
   refine hK.out _ _ (KEEP1.out _ hHeld2 _ (.inr rfl) _) (fun hHeld3 => ?_)
   clear hK K
   (try simp only [List.getElem_toArray, List.getElem_cons_zero, List.getElem_cons_succ, Act.put, List.setIfInBounds_toArray, List.set_cons_zero, List.set_cons_succ])
   refine wpAnyH_done (by kernel_rfl) ?_ _
   obtain ⟨E1, hE1⟩ : ∃ E, Y.drew.setCells (w.heap.size + 1 + 1) 0 st.cells.toList.toArray.toList = E := ⟨_, rfl⟩
   obtain ⟨E2, hE2⟩ : ∃ E, E1.setCells (w.heap.size + 1 + 1 + 1) 0 il.toArray.toList = E := ⟨_, rfl⟩
   rw [hE1, hE2]
   have h6 : E1.rangeAt (w.heap.size + 1 + 1) 0 st.cells.toList := by rw [← hE1]; exact World.rangeAt_setCells_same _ _ _ _ (by show Y.drew.there (w.heap.size + 1 + 1) 0 st.cells.toList.length; rw [hl20]; exact hHeld.2.2.1)
   have h6' : E2.rangeAt (w.heap.size + 1 + 1) 0 st.cells.toList := by rw [← hE2]; exact World.rangeAt_setCells_apart h6 _ _ _ (.inl n67)
   have h7' : E2.rangeAt (w.heap.size + 1 + 1 + 1) 0 il := by rw [← hE2]; rw [hE1] at hHeld2; exact World.rangeAt_setCells_same _ _ _ _ (by show E1.there (w.heap.size + 1 + 1 + 1) 0 il.length; rw [hl4]; exact hHeld2.2.2.2)
   have hbl : ∀ k, k ≠ w.heap.size + 1 + 1 → k ≠ w.heap.size + 1 + 1 + 1 → E2.heap[k]? = Y.heap[k]? := fun k q1 q2 => by rw [← hE2, heap_setCells_other _ _ _ _ _ q2, ← hE1, heap_setCells_other _ _ _ _ _ q1]; rfl
   have hBE : Below w.heap.size w E2 := by
    have hYX : Below w.heap.size w Y := (BV.out.trans (BVX.out.mono BV.out.size)).trans (HYB.out.below (by have := SV.out; have := BVX.out.size; omega) (fun k hk => by have h8 : k = cb + 1 + 1 + 1 + 1 := hk; omega))
    rw [← hE2, ← hE1]
    exact Below.setCells' (Below.setCells' hYX.drew (by omega) _ _) (by omega) _ _
   clear hHeld hHeld2 hHeld3
   go_wp2_with fail
   refine bodyPost_ret (results_cell2 (P := Tryd.prog) Tryd.results12 _ _ (w.heap.size + 1 + 1) (w.heap.size + 1 + 1 + 1) st.cells.toList il _ _ rfl rfl h6' h7' hu20 rfl hi20 hu38 rfl hi4) rfl ?_
   refine ⟨cb, ?_, hBE, by omega, ?_, ?_, ?_⟩
   ·rw [← HST.out, ← HIL.out]
   ·rw [HEC.out, hbl _ (by omega) (by omega)]
    exact (HYB.out.block _ (lt_of_blk' X0.out) (by omega)).trans X0.out
   ·rw [hbl _ (by omega) (by omega)]
    exact (HYB.out.block _ (lt_of_blk' X1.out) (by omega)).trans X1.out
   ·rw [hbl _ (by omega) (by omega)]
    exact (HYB.out.block _ (lt_of_blk' X3.out) (by omega)).trans X3.out

end Go.Proofs.YtebklpnkcicpjaaDoor


