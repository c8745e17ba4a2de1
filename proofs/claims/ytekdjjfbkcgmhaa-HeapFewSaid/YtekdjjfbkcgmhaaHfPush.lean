/-
  What is proved here: what (*Heap).Push does to the count (instance uint16).
-/
import Derived.Test.YtekdjjfbkcgmhaaHfBefore
namespace Go.Proofs.Ytekdjjfbkcgmhaa
open Go.RowKit Hp
set_option linter.unusedVariables false
set_option linter.unusedSimpArgs false

theorem pushU_idle (w : World) :
    CallsD Try.prog 40 #[] .returning w fun e u' w' => e = .returned (.tuple #[]) ∧ u' = .returning ∧ w' = w := by
  refine callsD_of_wpS Try.func40 rfl fun c₀ cs hu => ?_
  apply wpS_region
  simp [wpOpsS, go_sem, recoverD, hu, Try.ntmps40, Exit.thenS]
  cases c₀
  simp_all [bodyPostS, results, Try.results40]

theorem infoU : (Try.prog.info? 73).map (fun i => (i.zero, i.size, i.bytes)) = some (some (.agg #[.int .u16 0, .int .i64 0]), 2, 16) := by kernel_rfl
def pathN (ps : List Nat) : List Value := ps.map fun (p : Nat) => .int .i64 (p : Int)
theorem pathN_snoc (ps : List Nat) (p : Nat) : pathN (ps ++ [p]) = pathN ps ++ [.int .i64 p] := by simp [pathN]
abbrev put2 (w : World) (g i : Nat) (x : Iu) : World := (w.setCell ⟨g, i * 2, none⟩ (.int .u16 x.key)).setCell ⟨g, i * 2 + 1, none⟩ (.int .i64 x.ord)
theorem HpU.put {w : World} {B hb kb g cap : Nat} {L : List Iu} {nx c : Int} (h : HpU w B hb kb (.slice (some ⟨g, 0, none⟩) L.length cap) L nx c) (i : Nat) (x : Iu) :
    HpU (put2 w g i x) B hb kb (.slice (some ⟨g, 0, none⟩) L.length cap) (L.set i x) nx c ∧ w.grownBy (put2 w g i x) (some g) ∧ B ≤ g := by
  obtain ⟨n1, n2, n3⟩ := h.ne
  simp only [Value.ownBlock, ne_eq, Option.some.injEq] at n1 n2
  obtain ⟨o1, g1⟩ := h.row.stored (i * 2) (.int .u16 x.key)
  obtain ⟨o2, g2⟩ := o1.stored (i * 2 + 1) (.int .i64 x.ord)
  have gg : w.grownBy (put2 w g i x) (some g) := by
    refine ⟨rfl, rfl, rfl, by simp [put2], fun k hk h2 => ?_⟩
    rw [g2.block k (by simpa using hk) h2, g1.block k hk h2]
  refine ⟨⟨?_, ?_, ?_, h.lowh, h.lowk⟩, gg, (h.row.lt g rfl).1⟩
  · rw [gg.block hb (lt_of_block h.blk) (by simpa using fun e => n2 e.symm)]; exact h.blk
  · rw [flatU_set] at o2
    rw [List.length_set]
    exact o2
  · rw [gg.block kb (lt_of_block h.cnt) (by simpa using fun e => n1 e.symm)]; exact h.cnt
structure PuU (w wx : World) (B b0 hb kb g cap : Nat) (p : Value) (M : List Iu) (nx c : Int) (xb : Nat) (x : Iu) (ps : List Nat) : Prop where
  hp : HpU wx B hb kb (.slice (some ⟨g, 0, none⟩) M.length cap) M nx c
  path : wx.ownsRow b0 3 1 p ps.length (pathN ps)
  apart : p.ownBlock ≠ some g
  item : g ≠ xb
  bx : wx.heap[xb]? = some (.cells #[.int .u16 x.key, .int .i64 x.ord] 73 (0, 0))
  bel : Below B w wx
section
variable {w wx W : World} {B b0 hb kb g cap : Nat} {p : Value} {M : List Iu} {nx c : Int} {xb : Nat} {x : Iu} {ps : List Nat}
theorem PuU.later (P : PuU w wx B b0 hb kb g cap p M nx c xb x ps) (hB : B ≤ w.heap.size) (h : Below wx.heap.size wx W) : PuU w W B b0 hb kb g cap p M nx c xb x ps :=
  ⟨P.hp.later h, own_ext ⟨W, h⟩ P.path, P.apart, P.item, ext_block ⟨W, h⟩ P.bx, P.bel.trans (h.mono (by have := P.bel.size; omega))⟩
theorem PuU.put (P : PuU w wx B b0 hb kb g cap p M nx c xb x ps) (hB : B ≤ w.heap.size) (i : Nat) (y : Iu) : PuU w (put2 wx g i y) B b0 hb kb g cap p (M.set i y) nx c xb x ps := by
  obtain ⟨h1, h2, h3⟩ := P.hp.put i y
  refine ⟨by rw [List.length_set]; exact h1, ?_, P.apart, P.item, ?_, P.bel.grown h2 (by have := P.bel.size; omega) (fun k hk => by simp at hk; omega)⟩
  · refine ⟨P.path.1, ?_⟩
    rcases P.path.2 with h | ⟨q, c', cr, rfl, q1, q2, q3⟩
    · exact .inl h
    · refine .inr ⟨q, c', cr, rfl, q1, ?_, q3⟩
      rw [h2.block q (lt_of_block q2) P.apart]
      exact q2
  · rw [h2.block _ (lt_of_block P.bx) (fun e => P.item (by simpa using e.symm))]
    exact P.bx
theorem PuU.at (P : PuU w wx B b0 hb kb g cap p M nx c xb x ps) (i : Nat) (hi : i < M.length) :
    wx.cell? ⟨g, i * 2, none⟩ = some (.int .u16 (at_ M i).key) ∧ wx.cell? ⟨g, i * 2 + 1, none⟩ = some (.int .i64 (at_ M i).ord) ∧
    wx.frozen? ⟨g, i * 2, none⟩ = false ∧ wx.frozen? ⟨g, i * 2 + 1, none⟩ = false ∧ g < wx.heap.size := by
  obtain ⟨g', cap', hv, _, hs, _, _, _, hat⟩ := own_itemsU P.hp.row (by omega)
  simp only [Value.slice.injEq, Option.some.injEq, Addr.mk.injEq, true_and, and_true] at hv
  obtain ⟨rfl, rfl⟩ := hv
  obtain ⟨a1, a2, a3, a4⟩ := hat i hi
  exact ⟨a1, a2, a3, a4, hs⟩
theorem PuU.pathAt (P : PuU w wx B b0 hb kb g cap p M nx c xb x ps) (hk : 0 < ps.length) :
    ∃ q c, p = .slice (some ⟨q, 0, none⟩) ps.length c ∧ q < wx.heap.size ∧ ∀ j (h : j < ps.length), wx.cell? ⟨q, j, none⟩ = some (.int .i64 (ps[j] : Nat)) := by
  rcases P.path.2 with ⟨_, h⟩ | ⟨q, c, cr, rfl, q1, q2, q3, q4, q5, q6⟩
  · omega
  · refine ⟨q, c, rfl, lt_of_block q2, fun j hj => ?_⟩
    have e := congrArg (fun l => l[j]?) q6
    simp only [List.getElem?_take, Nat.mul_one, hj, if_true] at e
    have e2 : (pathN ps)[j]? = some (.int .i64 (ps[j] : Nat)) := by simp [pathN, hj]
    simpa [World.cell?, q2] using e.trans e2
theorem PuU.xc (P : PuU w wx B b0 hb kb g cap p M nx c xb x ps) : wx.cell? ⟨xb, 0, none⟩ = some (.int .u16 x.key) ∧ wx.cell? ⟨xb, 1, none⟩ = some (.int .i64 x.ord) ∧ xb < wx.heap.size := by
  refine ⟨?_, ?_, lt_of_block P.bx⟩ <;> simp [World.cell?, P.bx]
theorem PuU.bump (P : PuU w wx B b0 hb kb g cap p M nx c xb x ps) (n' : Int) : HpU (wx.setCell ⟨hb, 2, none⟩ (.int .i64 n')) B hb kb (.slice (some ⟨g, 0, none⟩) M.length cap) M n' c ∧ Below B w (wx.setCell ⟨hb, 2, none⟩ (.int .i64 n')) := by
  obtain ⟨n1, n2, n3⟩ := P.hp.ne
  refine ⟨⟨?_, ownsRow_setCell_other P.hp.row (by simpa [Value.ownBlock] using n2) _, ?_, P.hp.lowh, P.hp.lowk⟩, P.bel.setCell P.hp.lowh _⟩
  · have := heap_setCell_same wx hb 2 _ _ (.int .i64 n') P.hp.blk
    simpa using this
  · rw [heap_setCell_other _ ⟨hb, 2, none⟩ kb _ (by simpa using fun e => n3 e.symm)]; exact P.hp.cnt
end
theorem PuU.made {w wc y W' : World} {B b0 hb kb : Nat} {v v' p : Value} {L : List Iu} {nx c : Int} {x : Iu} {ps : List Nat} (D : HpU wc B hb kb v L nx c) (hB : B ≤ w.heap.size) (hlow : ∀ j, v.ownBlock = some j → j < w.heap.size) (hs : w.heap.size < b0) (hb0 : b0 ≤ wc.heap.size) (hhb : hb < w.heap.size) (hkb : kb < w.heap.size)
    (bx : wc.heap[w.heap.size]? = some (.cells #[.int .u16 x.key, .int .i64 x.ord] 73 (0, 0))) (hbel : Below B w wc)
    (hp : wc.ownsRow b0 3 1 p ps.length (pathN ps)) (hy : Below wc.heap.size wc y) (hg : y.grownBy W' v.ownBlock) (ho : W'.ownsRow B 73 2 v' (L.length + 1) (flatU L ++ x.cells))
    (hv : v'.ownBlock = v.ownBlock ∨ v'.ownBlock = some y.heap.size) :
    ∃ g cap, v' = .slice (some ⟨g, 0, none⟩) (L.length + 1) cap ∧ PuU w (W'.setCell ⟨hb, 1, none⟩ v') B b0 hb kb g cap p (L ++ [x]) nx c w.heap.size x ps := by
  have hsy := hy.size
  obtain ⟨n1, n2, n3⟩ := D.ne
  rcases ho.2 with ⟨rfl, h⟩ | ⟨g, cap, cur, rfl, hb1, hb2, hb3⟩
  · omega
  refine ⟨g, cap, rfl, ?_⟩
  have hgn : g < w.heap.size ∨ y.heap.size ≤ g := by
    rcases hv with h | h
    · exact .inl (hlow g h.symm)
    · simp only [Value.ownBlock, Option.some.injEq] at h; exact .inr (by omega)
  have keep : ∀ j, j < wc.heap.size → some j ≠ v.ownBlock → W'.heap[j]? = wc.heap[j]? := fun j hj hn => (hg.block j (by omega) hn).trans (hy.block j hj)
  have hbk := (keep hb (lt_of_block D.blk) (fun e => n2 e.symm)).trans D.blk
  have hkk := (keep kb (lt_of_block D.cnt) (fun e => n1 e.symm)).trans D.cnt
  have hgb : g ≠ hb := by
    intro e
    subst e
    have := hb2.symm.trans hbk
    simp at this
  have oth : ∀ j, j ≠ hb → (W'.setCell ⟨hb, 1, none⟩ (.slice (some ⟨g, 0, none⟩) (L.length + 1) cap)).heap[j]? = W'.heap[j]? := fun j hj => heap_setCell_other W' ⟨hb, 1, none⟩ j _ (fun e => hj (by simp [e]))
  refine ⟨⟨?_, ?_, ?_, D.lowh, D.lowk⟩, ?_, ?_, ?_, ?_, ?_⟩
  · rw [show (L ++ [x]).length = L.length + 1 by simp]
    have := heap_setCell_same W' hb 1 _ _ (.slice (some ⟨g, 0, none⟩) (L.length + 1) cap) hbk
    simpa using this
  · rw [show (L ++ [x]).length = L.length + 1 by simp, flatU_append]
    have := ownsRow_setCell_other (v := .slice (some ⟨g, 0, none⟩) (L.length + 1) cap) (a := ⟨hb, 1, none⟩) ho (by simpa [Value.ownBlock] using hgb) (.slice (some ⟨g, 0, none⟩) (L.length + 1) cap)
    simpa [flatU] using this
  · rw [oth kb (fun e => n3 e.symm)]; exact hkk
  · refine ⟨hp.1, ?_⟩
    rcases hp.2 with h | ⟨q, c', cr, rfl, q1, q2, q3⟩
    · exact .inl h
    · refine .inr ⟨q, c', cr, rfl, q1, ?_, q3⟩
      rw [oth q (by omega), keep q (lt_of_block q2) (fun e => by have := hlow q e.symm; omega)]
      exact q2
  · intro e
    have := hp.lt g e
    omega
  · omega
  · rw [oth _ (by omega), keep _ (lt_of_block bx) (fun e => by have := hlow _ e.symm; omega)]
    exact bx
  · have hB' : B ≤ wc.heap.size := by omega
    refine ((hbel.trans (hy.mono hB')).grown hg (by omega) (fun k hk => ?_)).setCell D.lowh _
    exact (D.row.lt k hk).1
theorem cells_newU (w : World) (x : Iu) (t : TypeId) : ∀ j u, x.cells[j]? = some u → ((w.alloc (Obj.cells #[.int .u16 x.key, .int .i64 x.ord] t)).drew).cell? ((⟨w.heap.size, 0, none⟩ : Addr).add j) = some u := by
  intro j u h
  have hb : ((w.alloc (Obj.cells #[.int .u16 x.key, .int .i64 x.ord] t)).drew).heap[w.heap.size]? = some (Obj.cells #[.int .u16 x.key, .int .i64 x.ord] t) := alloc_new w _
  have e : (⟨w.heap.size, 0, none⟩ : Addr).add j = ⟨w.heap.size, j, none⟩ := by cases j <;> simp [Addr.add]
  have : (#[Value.int .u16 x.key, .int .i64 x.ord] : Array Value)[j]? = some u := by
    simpa [Iu.cells] using h
  rw [e]
  unfold World.cell?
  rw [hb]
  simpa using this
theorem one_cellsU (x : Iu) : ∀ u ∈ x.cells, u.oneCell' = true := by
  intro u hu
  simp only [Iu.cells, List.mem_cons, List.not_mem_nil, or_false] at hu
  rcases hu with rfl | rfl <;> rfl
theorem half_pow {a b k n : Nat} (h : (a + 2) * 2 ^ k ≤ n) (hb : b = a / 2) : (b + 1) * 2 ^ (k + 1) ≤ n := by
  have h1 : (b + 1) * 2 ≤ a + 2 := by omega
  calc (b + 1) * 2 ^ (k + 1) = ((b + 1) * 2) * 2 ^ k := by rw [Nat.pow_succ, Nat.mul_comm (2 ^ k) 2, Nat.mul_assoc]
    _ ≤ (a + 2) * 2 ^ k := Nat.mul_le_mul_right _ h1
    _ ≤ n := h
theorem two_pow {a k n : Nat} (h : (a + 2) * 2 ^ k ≤ n) : 2 ^ (k + 1) ≤ n := by
  have : 2 * 2 ^ k ≤ (a + 2) * 2 ^ k := Nat.mul_le_mul_right _ (by omega)
  rw [Nat.pow_succ, Nat.mul_comm]; omega
theorem len_pow {k n : Nat} (h : 2 ^ k ≤ n) : k < n := Nat.lt_of_lt_of_le Nat.lt_two_pow_self h

def RetPushU (L : List Iu) (nx c : Int) (B hb kb : Nat) (w : World) (e : Ending) (w' : World) : Prop :=
  e = .returned (.tuple #[]) ∧ ∃ (v' : Value) (L' : List Iu) (d : Nat), L'.length = L.length + 1 ∧ HpU w' B hb kb v' L' (nx + 1) (c + d) ∧ 2 ^ d ≤ L.length + 1 ∧ Below B w w'
set_option maxRecDepth 100000 in
set_option maxHeartbeats 4000000 in
theorem push_u (hb kb : Nat) (L : List Iu) (hlen : L.length ≤ 1000) (B : Nat) (v : Value) (x : Iu) (hnx : 0 ≤ x.ord) (hny : x.ord ≤ 1000) (c : Int) (h0c : 0 ≤ c) (h1c : c ≤ 1000) (w : World) (hB : B ≤ w.heap.size) (H : HpU w B hb kb v L x.ord c) :
    Calls Try.prog 20 #[.pointer (some ⟨hb, 0, none⟩), .int .u16 x.key] w (RetPushU L x.ord c B hb kb w) := by
  obtain ⟨i0, hi, hz0, hz1, hz2⟩ := info_parts infoI
  have hmf : ∀ (fn : Fn) (first cap : Array Value) (w : World), (Instr.makeFunc fn first cap).run Try.prog w = .ok (.func fn first cap) w := fun _ _ _ _ => rfl
  obtain ⟨h1, h2, h3, h4, h5, h6, k1, k2, k3⟩ := H.cells
  have HH := Lib.hid H
  obtain ⟨av, cap, hv⟩ := own_len H.row
  subst hv
  clear H
  go_enter_defers Try.func20, Try.ntmps20
  go_upto_region 3 with (go_at_call 39; refine (usable_u hb kb _ (by simp [go_sem, *])).mono ?_; rintro e _ ⟨rfl, rfl⟩)
  obtain ⟨V, hV⟩ : ∃ V, w.alloc (Obj.cells #[.int .u16 x.key, .int .i64 x.ord] 73) = V := ⟨_, rfl⟩
  have hVb : Below w.heap.size w V := hV ▸ (Below.refl _ _).alloc (Nat.le_refl _) _
  have hVx : V.heap[w.heap.size]? = some (Obj.cells #[.int .u16 x.key, .int .i64 x.ord] 73) := hV ▸ alloc_new _ _
  rw [hV]
  have D := HH.out.later hVb
  have sV := lt_of_block hVx
  have HV := Lib.hid hVb
  have HVx := Lib.hid hVx
  have HD := Lib.hid D
  clear hV hVb hVx D h1 h2 h3 h4 h5 k1 k2
  obtain ⟨h1, h2, h3, h4, h5, h6', k1, k2, k3'⟩ := HD.out.cells
  have hown0 : V.ownsRow V.heap.size 3 1 (.slice none 0 0) 0 (pathN []) := ⟨rfl, .inl ⟨rfl, rfl⟩⟩
  go_upto_block 0 with fail
  go_cut [5, 6, 7] from 25 to 45 (fun p a u wx => ∃ (ps : List Nat) (d : Nat), (∀ q ∈ ps, q < L.length) ∧ 2 ^ ps.length ≤ L.length + 1 ∧ 2 ^ d ≤ L.length + 1 ∧ wx.ownsRow V.heap.size 3 1 p ps.length (pathN ps) ∧ Cx kb V wx (c + d))
  case first =>
    go_wp2_with fail
    go_loopw [5, 6, 7] (fun p a u wr => ∃ (ps : List Nat) (m : Nat), a = .int .i64 m ∧ m ≤ L.length ∧ (m + 1) * 2 ^ ps.length ≤ L.length + 1 ∧ (∀ q ∈ ps, q < L.length) ∧ wr.ownsRow V.heap.size 3 1 p ps.length (pathN ps) ∧ Cx kb V wr (c + (ps.length : Nat))) (fun _ a _ _ => (intOf a).toNat)
    case atStart => exact ⟨[], L.length, rfl, Nat.le_refl _, by simp, (fun q hq => by cases hq), hown0, by simpa using Cx.refl HD.out.cnt⟩
    case round =>
      obtain ⟨ps, m, rfl, hml, hmp, hps, hown, hC⟩ := hrel
      have hpl : ps.length ≤ 1000 := by
        have : 2 ^ ps.length ≤ L.length + 1 := Nat.le_trans (by have := Nat.mul_le_mul_right (2 ^ ps.length) (show 1 ≤ m + 1 by omega); omega) hmp
        have := len_pow this
        omega
      have HMP := Lib.hid hmp
      have HPS := Lib.hid hps
      have HC := Lib.hid hC
      have HO := Lib.hid hown
      clear hmp hps hC hown h1 h2 h3 h4 h5 k1 k2 k3'
      have D := HD.out.step HC.out
      obtain ⟨h1, h2, h3, h4, h5, h6', k1, k2, k3'⟩ := D.cells
      have zr := HC.out.size
      by_cases c0 : m = 0
      · subst c0
        clear D
        go_wp2_with fail
        go_meet
        have := HMP.out
        exact ⟨ps, ps.length, HPS.out, by simpa using this, by simpa using this, HO.out, HC.out⟩
      · obtain ⟨a, rfl⟩ : ∃ a, m = a + 1 := ⟨m - 1, by omega⟩
        obtain ⟨g, cap', hv, hg, hgs, hcap, hmax, _, hcs⟩ := own_itemsU D.row (by omega)
        simp only [Value.slice.injEq, true_and] at hv
        obtain ⟨rfl, rfl⟩ := hv
        obtain ⟨b, hab⟩ : ∃ b : Nat, a / 2 = b := ⟨_, rfl⟩
        have hq : (a : Int) / 2 = (b : Int) := by omega
        have hbl : b < L.length := by omega
        have hbm : b ≤ 1000 := by omega
        have hba : b ≤ a := by omega
        obtain ⟨e1, e2, _, _⟩ := hcs b hbl
        have HAB := Lib.hid hab
        have HQ := Lib.hid hq
        have HDr := Lib.hid D
        clear hcs D hab hq
        have x1 : wr.cell? ⟨w.heap.size, 0, none⟩ = some (.int .u16 x.key) := by rw [HC.out.cell _ _ sV (by omega)]; simp [World.cell?, HVx.out]
        have x2 : wr.cell? ⟨w.heap.size, 1, none⟩ = some (.int .i64 x.ord) := by rw [HC.out.cell _ _ sV (by omega)]; simp [World.cell?, HVx.out]
        have x3 : w.heap.size < wr.heap.size := by omega
        go_wp2_with fail
        rw [HQ.out]
        refine wp_region_ext_tail 9 (by kernel_rfl) (by kernel_rfl) ?_
        simp only [List.take_succ_cons, List.take_zero, List.drop_succ_cons, List.drop_zero]
        repeat (go_big_quiet_step (fail))
        refine wpQuiet_nil ?_
        rintro _ ⟨y, rfl⟩
        have hDy := HDr.out.later y.h
        have HDy := Lib.hid hDy
        clear hDy
        go_upto_region 8 with (go_at_call 41; refine (before_u hb kb x (at_ L b) (c + (ps.length : Nat)) y.w (by omega) (by omega) HDy.out.cells.1 (lt_of_block HDy.out.blk) HDy.out.cnt).mono ?_; rintro e W ⟨r, rfl, hW⟩; cases r)
        · have hCW := (HC.out.later y.h).trans hW
          go_meet
          exact ⟨ps, ps.length + 1, HPS.out, by have := two_pow HMP.out; rw [Nat.pow_succ] at this; omega, two_pow HMP.out, hW.own (own_ext y HO.out) (fun e => by have := (HO.out.lt _ e).1; omega), by rw [show (c + ((ps.length + 1 : Nat) : Int)) = c + (ps.length : Nat) + 1 by omega]; exact hCW⟩
        · have hCW := (HC.out.later y.h).trans hW
          have ho := hW.own (own_ext y HO.out) (fun e => by have := (HO.out.lt _ e).1; omega)
          have HCW := Lib.hid hCW
          have zW := hCW.size
          clear hCW hW
          go_wp2_with (at_builtin; refine wpList_append_own _ rfl (.tmp 41) (.tmp 43) 22 rfl V.heap.size 3 i0 (.int .i64 0) 1 8 Try.underlying22 hi hz0 hz1 hz2 rfl (by decide) _ _ _ rfl (ho.alloc _) ⟨W.heap.size, 0, none⟩ 1 1 [.int .i64 (b : Int)] rfl rfl (cell_one_new _ _ _) (by simp [Value.oneCell']) (by unfold maxLen; omega) (by omega) (by rw [World.size_alloc]; omega) ?_; intro v' W' hown' hgrow _)
          have hb' : Below V.heap.size V V := Below.refl _ _
          go_roundw
          case rel =>
            refine ⟨ps ++ [b], b, rfl, by omega, by rw [List.length_append]; exact half_pow HMP.out HAB.out.symm, fun q hq => ?_, by rw [List.length_append, pathN_snoc]; exact hown', ?_⟩
            · rcases List.mem_append.1 hq with h | h
              · exact HPS.out q h
              · simp only [List.mem_singleton] at h; rw [h]; exact hbl
            · have e : (c + (((ps ++ [b]).length : Nat) : Int)) = c + (ps.length : Nat) + 1 := by simp; omega
              rw [e]
              have hx : Cx kb V (W.alloc (Obj.cells #[.int .i64 (b : Int)] 3)) (c + (ps.length : Nat) + 1) := HCW.out.later ((Below.refl _ _).alloc (Nat.le_refl _) (Obj.cells #[.int .i64 (b : Int)] 3))
              refine ⟨hgrow.os.trans hx.os, hgrow.tape.trans hx.tape, hgrow.output.trans hx.output, Nat.le_trans hx.size hgrow.size, fun k hk hn => (hgrow.block k (by have := hx.size; omega) (fun e => by have := (ho.lt k e.symm).1; omega)).trans (hx.block k hk hn), (hgrow.block kb (lt_of_block hx.cnt) (fun e => by have := (ho.lt kb e.symm).1; omega)).trans hx.cnt⟩
          case measure => simp [intOf]; omega
  case rest =>
    obtain ⟨ps, d, hps, hpd, hd, hown, hC⟩ := hcut
    have hpl := len_pow hpd
    have hdl := len_pow hd
    have D := HD.out.step hC
    clear h1 h2 h3 h4 h5 k1 k2 k3' hown0
    obtain ⟨h1, h2, h3, h4, h5, h6', k1, k2, k3'⟩ := D.cells
    have hbx : wc.heap[w.heap.size]? = some (Obj.cells #[.int .u16 x.key, .int .i64 x.ord] 73) := (hC.block _ sV (by omega)).trans HVx.out
    have x1 : wc.cell? ⟨w.heap.size, 0, none⟩ = some (.int .u16 x.key) := by simp [World.cell?, hbx]
    have x2 : wc.cell? ⟨w.heap.size, 1, none⟩ = some (.int .i64 x.ord) := by simp [World.cell?, hbx]
    have x3 := lt_of_block hbx
    have zc := hC.size
    have hbel : Below B w wc := (HV.out.mono hB).trans (hC.below HH.out.lowk (by omega))
    have HPS := Lib.hid hps
    have HDd := Lib.hid hd
    have HO := Lib.hid hown
    have HDc := Lib.hid D
    have HBX := Lib.hid hbx
    have HBel := Lib.hid hbel
    clear hps hpd hd hown hC D hbx hbel
    obtain ⟨i1, hi1, hy0, hy1, hy2⟩ := info_parts infoU
    have HNE := Lib.hid (show some hb ≠ Value.ownBlock (.slice av L.length cap) from fun e => HH.out.ne.2.1 e.symm)
    go_upto_region 11 with fail
    go_cut [51] from 52 to 60 (fun _ wx => ∃ g cap', PuU w wx B V.heap.size hb kb g cap' u5 (L ++ [x]) x.ord (c + d) w.heap.size x ps)
    case first =>
      refine wp_region_noPanic ?_
      go_region_law (refine step_append_own rfl (.tmp 55) (.tmp 57) 69 rfl B 73 i1 _ 2 16 Try.underlying69 hi1 hy0 hy1 hy2 rfl (by decide) (.slice av L.length cap) L.length (flatU L) (by simp [Act.eval, Act.put]) (HDc.out.row.alloc _) ⟨wc.heap.size, 0, none⟩ 1 1 x.cells (by simp [Act.eval, Act.put]) rfl (cells_newU _ _ _) (one_cellsU x) (by unfold maxLen; omega) (by omega) (by show B ≤ (World.drew _).heap.size; simp [World.drew]; omega) ?_; intro v' W' hown' hgrow hat; obtain ⟨av', cp', rfl⟩ := own_len hown'; have hc1 := hgrow.cell (a := ⟨hb, 1, none⟩) (v := .slice av L.length cap) (by simp [go_sem, *]) HNE.out; have hf1 : W'.frozen? ⟨hb, 1, none⟩ = false := (World.frozen?_of_block (hgrow.block hb (by simp; omega) HNE.out)).trans (by simp [go_sem, *]))
      all_goals
        refine NoPanic.normal ?_
        go_wp2_with fail
        go_meet
        obtain ⟨g, cq, hq, P⟩ := PuU.made HDc.out hB (fun j hj => (HH.out.row.lt j hj).2) sV zc h6 k3 HBX.out HBel.out HO.out (Below.drew (Below.alloc (Below.refl _ _) (Nat.le_refl _) _)) hgrow hown' hat
        rw [hq] at *
        exact ⟨g, cq, P⟩
    case rest =>
      obtain ⟨g, cq, P⟩ := hcut
      clear x1 x2 x3 h1 h2 h3 h4 h5 h6' k1 k2 k3'
      obtain ⟨pa, pc, hpv⟩ := own_len P.path
      subst hpv
      have HP := Lib.hid P
      clear P
      have hLx : (L ++ [x]).length = L.length + 1 := by simp
      have HLx := Lib.hid hLx
      clear hLx
      go_wp2_with fail
      go_loopw [8, 10, 63] (fun a b i wr => ∃ (j m : Nat) (M : List Iu), j ≤ ps.length ∧ m < L.length + 1 ∧ a = .int .i64 (m : Int) ∧ i = .int .i64 (j : Int) ∧ M.length = L.length + 1 ∧ PuU w wr B V.heap.size hb kb g cq (.slice pa ps.length pc) M x.ord (c + d) w.heap.size x ps) (fun _ _ i _ => ps.length - (intOf i).toNat)
      case atStart => exact ⟨0, L.length, L ++ [x], Nat.zero_le _, by omega, rfl, rfl, HLx.out, HP.out⟩
      case round =>
        obtain ⟨j, m, M, hj, hm, rfl, rfl, hM, P⟩ := hrel
        obtain ⟨h1, h2, h3, h4, h5, h6', k1, k2, k3'⟩ := P.hp.cells
        rw [hM] at h2
        obtain ⟨f1, f2, f3, f4, hgs⟩ := P.at m (by omega)
        have HPj := Lib.hid P
        have HMl := Lib.hid hM
        by_cases hjk : j < ps.length
        · obtain ⟨q, c', hv, hqs, hpc⟩ := P.pathAt (by omega)
          simp only [Value.slice.injEq, true_and] at hv
          obtain ⟨rfl, rfl⟩ := hv
          have p1 := hpc j hjk
          obtain ⟨b, hb'⟩ : ∃ b, ps[j] = b := ⟨_, rfl⟩
          rw [hb'] at p1
          have hbl : b < L.length := by rw [← hb']; exact HPS.out _ (List.getElem_mem _)
          have hbl1 : b < L.length + 1 := by omega
          obtain ⟨e1, e2, _, _, _⟩ := P.at b (by omega)
          clear hpc hb' P hM
          go_wp2_with fail
          refine wp_region_ext_tail 13 (by kernel_rfl) (by kernel_rfl) ?_
          simp only [List.take_succ_cons, List.take_zero, List.drop_succ_cons, List.drop_zero]
          repeat (go_big_quiet_step (fail))
          refine wpQuiet_nil ?_
          rintro _ ⟨y1, rfl⟩
          go_wp2_with fail
          go_roundw
          case rel => exact ⟨j + 1, b, M.set m (at_ M b), by omega, by omega, rfl, by go_num, by rw [List.length_set]; exact HMl.out, (HPj.out.later hB y1.h).put hB m (at_ M b)⟩
          case measure => simp [intOf]; omega
        · obtain ⟨x1, x2, x4⟩ := P.xc
          have HNE2 := Lib.hid P.hp.ne
          have hgb : g ≠ hb := fun e => HNE2.out.2.1 (by simp [Value.ownBlock, e])
          have hbg : hb ≠ g := fun e => hgb e.symm
          clear P hM
          go_wp2_with fail
          refine wp_region_ext_tail 7 (by kernel_rfl) (by kernel_rfl) ?_
          simp only [List.take_succ_cons, List.take_zero, List.drop_succ_cons, List.drop_zero]
          repeat (go_big_quiet_step (fail))
          refine wpQuiet_nil ?_
          rintro _ ⟨y1, rfl⟩
          go_wp2_with fail
          refine leaves_cons (f := 40) (args := #[]) (by simp) (by simp [go_sem]) ?_
          refine (pushU_idle _).mono ?_
          rintro e u' w'' ⟨rfl, rfl, rfl⟩
          have PP := (HPj.out.later hB y1.h).put hB m x
          obtain ⟨b1, b2⟩ := PP.bump (x.ord + 1)
          exact ⟨_, results_none rfl _ _ _, rfl, .slice (some ⟨g, 0, none⟩) (M.set m x).length cq, M.set m x, d, by rw [List.length_set]; exact HMl.out, b1, HDd.out, b2⟩

end Go.Proofs.Ytekdjjfbkcgmhaa
