/-
 What Analyze returns (the statement), and what its walk needs.
-/
import Derived.Test.YtebklpnkcicpjaaDoorFaVi
import Derived.Test.YtebklpnkcicpjaaDoorFaAm
import Derived.Test.YtebklpnkcicpjaaDoorFaDm
import Derived.Test.YtebklpnkcicpjaaDoorFaBe
import Derived.Test.YtebklpnkcicpjaaDoorFbCd
import Derived.Test.YtebklpnkcicpjaaDoorFbT
import Derived.BigRegion
import Derived.Deep.RegionHeld3
import Derived.Deep.DeepCutAuto
namespace Go.Proofs.YtebklpnkcicpjaaDoor
open Go.RowKit
set_option linter.unusedVariables false
set_option linter.unusedSimpArgs false

def absOf (cd : Nat → Int) (G : List Blk) : List AB := G.map fun x => ⟨codeFrom cd x.lo (x.hi - x.lo).toNat, x.nx⟩
structure GOk (n : Nat) (cd : Nat → Int) (G : List Blk) (x : Blk) : Prop where
 lo : 0 ≤ x.lo
 lt : x.lo < x.hi
 nxl : x.nx.length ≤ 1000
 nx : ∀ t ∈ x.nx, 0 ≤ t ∧ t < (G.length : Int)
 cod : ∀ a : Nat, x.lo ≤ (a : Int) → (a : Int) < x.hi → a < n ∧ (decI (cd a)).2 = 0 ∧ 0 ≤ (insAt cd (a : Int)).op
theorem codeFrom_len (cd : Nat → Int) (lo : Int) (m : Nat) : (codeFrom cd lo m).length = m := by simp [codeFrom]
theorem absOf_len (cd : Nat → Int) (G : List Blk) : (absOf cd G).length = G.length := by simp [absOf]
theorem absOf_at {cd : Nat → Int} {G : List Blk} {k : Nat} {b : AB} (h : (absOf cd G)[k]? = some b) : ∃ x, G[k]? = some x ∧ b = ⟨codeFrom cd x.lo (x.hi - x.lo).toNat, x.nx⟩ := by
 unfold absOf at h
 rw [List.getElem?_map] at h
 cases hx : G[k]? with
 | none => rw [hx] at h; cases h
 | some x => rw [hx] at h; cases h; exact ⟨x, rfl, rfl⟩
theorem GOk.abw {n : Nat} {cd : Nat → Int} {G : List Blk} {x : Blk} (h : GOk n cd G x) : ABw G.length ⟨codeFrom cd x.lo (x.hi - x.lo).toNat, x.nx⟩ := by
 have hm : 0 < (x.hi - x.lo).toNat := by have := h.lt; omega
 have hops : ∀ i ∈ codeFrom cd x.lo (x.hi - x.lo).toNat, 0 ≤ i.op := fun i hi => by
  unfold codeFrom at hi
  obtain ⟨j, hj, rfl⟩ := List.mem_map.1 hi
  have hj := List.mem_range.1 hj
  have h0 := h.lo
  have := (h.cod (x.lo.toNat + j) (by omega) (by omega)).2.2
  rwa [show ((x.lo.toNat + j : Nat) : Int) = x.lo + (j : Int) by omega] at this
 have hne : codeFrom cd x.lo (x.hi - x.lo).toNat ≠ [] := by
  intro e
  have := codeFrom_len cd x.lo (x.hi - x.lo).toNat
  rw [e] at this
  simp at this
  omega
 refine ⟨⟨⟨hops, h.nx⟩, ?_, hops⟩, hne, h.nxl, h.nx⟩
 unfold AB.last
 have hl : (codeFrom cd x.lo (x.hi - x.lo).toNat).length - 1 < (codeFrom cd x.lo (x.hi - x.lo).toNat).length := by rw [codeFrom_len]; omega
 have e : (codeFrom cd x.lo (x.hi - x.lo).toNat).getD ((codeFrom cd x.lo (x.hi - x.lo).toNat).length - 1) ⟨0, 0, 0, 0, 0⟩ = (codeFrom cd x.lo (x.hi - x.lo).toNat)[(codeFrom cd x.lo (x.hi - x.lo).toNat).length - 1] := by simp [List.getD, List.getElem?_eq_getElem hl]
 show 0 ≤ ((codeFrom cd x.lo (x.hi - x.lo).toNat).getD ((codeFrom cd x.lo (x.hi - x.lo).toNat).length - 1) ⟨0, 0, 0, 0, 0⟩).op
 rw [e]
 exact hops _ (List.getElem_mem _)
theorem keepX {X w' : World} (hf : Below X.heap.size X w') : (∀ b o, b < X.heap.size → w'.cell? ⟨b, o, none⟩ = X.cell? ⟨b, o, none⟩) ∧ Below X.heap.size X w' := ⟨fun b o hb => hf.cell (p := ⟨b, o, none⟩) hb, hf⟩
theorem cells_new5 (w : World) (a b c d e : Value) (t : TypeId) : ∀ j u, [a, b, c, d, e][j]? = some u → (w.alloc (.cells #[a, b, c, d, e] t)).cell? ((⟨w.heap.size, 0, none⟩ : Addr).add j) = some u := by
 intro j u h
 have e : (⟨w.heap.size, 0, none⟩ : Addr).add j = ⟨w.heap.size, j, none⟩ := by cases j <;> simp [Addr.add]
 rw [e]
 unfold World.cell?
 rw [heap_alloc_new]
 simpa using h
theorem rows0 {w : World} {rb k : Nat} {T : TypeId} (h : w.heap[rb]? = some (.cells ((List.replicate k false).map Value.bool).toArray T (0, 0))) (hk : 0 < k) : w.cell? ⟨rb, 0, none⟩ = some (.bool false) ∧ w.frozen? ⟨rb, 0, none⟩ = false := by
 constructor
 ·unfold World.cell?
  simp only [h]
  rw [List.getElem?_toArray, List.getElem?_map, List.getElem?_replicate, if_pos hk]
  rfl
 ·simp [World.frozen?, h]
def NewV (B : Nat) (rv iv dv : Value) : Prop := ∀ q, (rv.ownBlock = some q ∨ iv.ownBlock = some q ∨ dv.ownBlock = some q) → B ≤ q
def cdAt (f : Nat → List Ins) (k : Nat) (l : List Ins) : Nat → List Ins := fun i => if i < k then f i else if i = k then l else []
theorem cdAt_zero (f : Nat → List Ins) : cdAt f 0 [] = fun _ => [] := by funext i; simp [cdAt]
theorem cdAt_self (f : Nat → List Ins) (k : Nat) (l : List Ins) : cdAt f k l k = l := by unfold cdAt; rw [if_neg (by omega), if_pos rfl]
theorem cdAt_upd (f : Nat → List Ins) (k : Nat) (l l' : List Ins) : upd (cdAt f k l) k l' = cdAt f k l' := by
 funext i
 unfold upd cdAt
 by_cases h : i = k
 ·rw [if_pos h, if_neg (by omega), if_pos h]
 ·rw [if_neg h, if_neg h, if_neg h]
theorem cdAt_step (f : Nat → List Ins) (k : Nat) : cdAt f k (f k) = cdAt f (k + 1) [] := by
 funext i
 unfold cdAt
 by_cases h1 : i < k
 ·rw [if_pos h1, if_pos (by omega)]
 ·rw [if_neg h1]
  by_cases h2 : i = k
  ·rw [if_pos h2, if_pos (by omega), h2]
  ·rw [if_neg h2, if_neg (by omega)]
   split <;> rfl
def codeK (cd : Nat → Int) (G : List Blk) (k : Nat) : List Ins := codeFrom cd (G.getD k ⟨0, 0, []⟩).lo ((G.getD k ⟨0, 0, []⟩).hi - (G.getD k ⟨0, 0, []⟩).lo).toNat
theorem infoIn : (Tryd.prog.info? 23).map (fun i => (i.zero, i.size, i.bytes)) = some (some (.agg #[.int .u8 0, .int .i64 0, .int .i64 0, .int .i64 0, .int .i64 0]), 5, 40) := by kernel_rfl
theorem infoBo : (Tryd.prog.info? 4).map (fun i => (i.zero, i.size, i.bytes)) = some (some (.bool false), 1, 1) := by kernel_rfl
theorem infoIt : (Tryd.prog.info? 3).map (fun i => (i.zero, i.size, i.bytes)) = some (some (.int .i64 0), 1, 8) := by kernel_rfl
theorem infoSl : (Tryd.prog.info? 113).map (fun i => (i.zero, i.size, i.bytes)) = some (some (.slice none 0 0), 1, 24) := by kernel_rfl
theorem infoRe : (Tryd.prog.info? 27).map (fun i => (i.zero, i.size, i.bytes)) = some (some (.agg (cellsR zeroR).toArray), 32, 128) := by kernel_rfl

def AnlSpec : Prop := ∀ (cv ev bv pv : Value) (sh lk : Int) (n : Nat) (cd : Nat → Int) (G : List Blk) (P : List (List Int)) (w : World) (T : Tab w) (HW : Words w cv n cd) (HG : Blks w bv G) (HP : Lls w pv P) (hv : ValidG G P) (hg0 : 0 < G.length) (hg1 : G.length ≤ 1000) (hok : ∀ x ∈ G, GOk n cd G x),
  Calls Tryd.prog 16 #[.agg #[cv, ev, .int .i64 sh, .int .i64 lk], .agg #[bv, pv]] w fun e w' => (∃ s rv iv dv, Ends (absOf cd G) (startS G.length) s ∧ e = .returned (.tuple #[.agg #[rv, iv, dv], .int .i64 0]) ∧ ResIn w' rv iv s.reach s.inn ∧ Prs w' dv (deadK (absOf cd G) s G.length) ∧ NewV w.heap.size rv iv dv) ∧ Below w.heap.size w w'

end Go.Proofs.YtebklpnkcicpjaaDoor


