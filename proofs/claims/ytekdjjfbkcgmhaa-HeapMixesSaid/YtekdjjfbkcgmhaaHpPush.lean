/-
  What is proved here: what (*Heap).Push does (instance Item).
-/
import Derived.Test.YtekdjjfbkcgmhaaHpFrame
import Derived.Test.YtekdjjfbkcgmhaaStepApp
import Derived.Deep.CutBlock
namespace Go.Proofs.Ytekdjjfbkcgmhaa
open Go.RowKit Hp
set_option linter.unusedVariables false
set_option linter.unusedSimpArgs false

def RetPush (ls : Int → Int → Int → Int → Bool) (L : List It) (x : It) (B hb : Nat) (fid : FuncId) (v : Value) (w : World) (e : Ending) (w' : World) : Prop :=
  e = .returned (.tuple #[]) ∧ ∃ k v', Stops (bfr ls) L x k ∧ HpAt w' B hb fid v' (pushK L x k) (x.ord + 1) ∧ Touch hb v.ownBlock w w' ∧ Same_or_new w v.ownBlock v'.ownBlock
/-- What the function's memory holds: the heap and the item that is pushed. -/
structure Psh (w V : World) (B hb : Nat) (fid : FuncId) (v : Value) (L : List It) (x : It) : Prop where
  below : Below w.heap.size w V
  hp : HpAt V B hb fid v L x.ord
  bx : V.heap[w.heap.size + 1]? = some (.cells #[.int .i64 x.key, .int .i64 x.name, .int .i64 x.ord] 67 (0, 0))
theorem HpAt.drew {W : World} {B hb : Nat} {fid : FuncId} {v : Value} {L : List It} {nx : Int} (h : HpAt W B hb fid v L nx) : HpAt W.drew B hb fid v L nx := ⟨h.blk, h.row.drew⟩
theorem Psh.start {w : World} {B hb : Nat} {fid : FuncId} {v : Value} {L : List It} (x : It) (h : HpAt w B hb fid v L x.ord) (o : Obj) :
    ∃ V, ((w.alloc o).alloc (Obj.cells #[.int .i64 x.key, .int .i64 x.name, .int .i64 x.ord] 67)).drew = V ∧ Psh w V B hb fid v L x ∧ w.heap.size + 1 < V.heap.size := by
  refine ⟨_, rfl, ⟨?_, ((h.alloc _).alloc _).drew, ?_⟩, ?_⟩
  · exact (Below.alloc (Below.alloc (Below.refl _ _) (Nat.le_refl _) _) (by simp) _).trans ⟨rfl, rfl, rfl, Nat.le_refl _, fun _ _ => rfl⟩
  · have := alloc_new (w.alloc o) (Obj.cells #[.int .i64 x.key, .int .i64 x.name, .int .i64 x.ord] 67)
    rw [World.size_alloc] at this
    exact this
  · show w.heap.size + 1 < (World.drew _).heap.size
    simp [World.drew]
theorem Psh.later {w V W : World} {B hb : Nat} {fid : FuncId} {v : Value} {L : List It} {x : It} (D : Psh w V B hb fid v L x) (h : Below V.heap.size V W) : Psh w W B hb fid v L x :=
  ⟨D.below.trans (h.mono D.below.size), D.hp.ext ⟨W, h⟩, ext_block ⟨W, h⟩ D.bx⟩
theorem Psh.cells {w V : World} {B hb : Nat} {fid : FuncId} {v : Value} {L : List It} {x : It} (D : Psh w V B hb fid v L x) :
    V.cell? ⟨w.heap.size + 1, 0, none⟩ = some (.int .i64 x.key) ∧ V.cell? ⟨w.heap.size + 1, 1, none⟩ = some (.int .i64 x.name) ∧ V.cell? ⟨w.heap.size + 1, 2, none⟩ = some (.int .i64 x.ord) ∧ w.heap.size + 1 < V.heap.size := by
  refine ⟨?_, ?_, ?_, lt_of_block D.bx⟩ <;> simp [World.cell?, D.bx]
theorem own_len {w : World} {B n size : Nat} {e : TypeId} {v : Value} {xs : List Value} (h : w.ownsRow B e size v n xs) : ∃ av cap, v = .slice av n cap := by
  rcases h.2 with ⟨rfl, rfl⟩ | ⟨g, cap, cur, rfl, _⟩
  · exact ⟨_, _, rfl⟩
  · exact ⟨_, _, rfl⟩
theorem infoT : (Try.prog.info? 67).map (fun i => (i.zero, i.size, i.bytes)) = some (some (.agg #[.int .i64 0, .int .i64 0, .int .i64 0]), 3, 24) := by kernel_rfl
def pathU (n k : Nat) : List Value := (List.range k).map fun i => .int .i64 (anc n (i + 1))
theorem pathU_succ (n k : Nat) : pathU n (k + 1) = pathU n k ++ [.int .i64 (anc n (k + 1))] := by
  simp [pathU, List.range_succ]

/-- Behind the append: the heap's row has grown; the item, the path and all else are as they were. -/
structure Pu (w wx : World) (B b0 hb g cap : Nat) (fid : FuncId) (v p : Value) (M : List It) (x : It) (n k : Nat) : Prop where
  hp : HpAt wx B hb fid (.slice (some ⟨g, 0, none⟩) M.length cap) M x.ord
  path : wx.ownsRow b0 3 1 p k (pathU n k)
  apart : p.ownBlock ≠ some g
  item : g ≠ w.heap.size + 1
  bx : wx.heap[w.heap.size + 1]? = some (.cells #[.int .i64 x.key, .int .i64 x.name, .int .i64 x.ord] 67 (0, 0))
  tch : Touch hb v.ownBlock w wx
  sn : Same_or_new w v.ownBlock (some g)
theorem Pu.made {w V wc y W' : World} {B hb : Nat} {fid : FuncId} {v v' p : Value} {L : List It} {x : It} {n k : Nat} (h0 : HpAt w B hb fid v L x.ord) (D : Psh w wc B hb fid v L x) (hs : w.heap.size + 1 < V.heap.size) (hV : Below V.heap.size V wc)
    (hp : wc.ownsRow V.heap.size 3 1 p k (pathU n k)) (hy : Below wc.heap.size wc y) (hg : y.grownBy W' v.ownBlock) (ho : W'.ownsRow B 67 3 v' (L.length + 1) (flat L ++ x.cells))
    (hv : v'.ownBlock = v.ownBlock ∨ v'.ownBlock = some y.heap.size) :
    ∃ g cap, v' = .slice (some ⟨g, 0, none⟩) (L.length + 1) cap ∧ Pu w (W'.setCell ⟨hb, 1, none⟩ v') B V.heap.size hb g cap fid v p (L ++ [x]) x n k := by
  have hsy := hy.size
  have hsV := hV.size
  have hhb := lt_of_block h0.blk
  have hlow : ∀ j, v.ownBlock = some j → j < w.heap.size := fun j hj => (h0.row.lt j hj).2
  rcases ho.2 with ⟨rfl, h⟩ | ⟨g, cap, cur, rfl, hb1, hb2, hb3⟩
  · omega
  refine ⟨g, cap, rfl, ?_⟩
  have hgn : g < w.heap.size ∨ y.heap.size ≤ g := by
    rcases hv with h | h
    · exact .inl (hlow g h.symm)
    · simp only [Value.ownBlock, Option.some.injEq] at h; exact .inr (by omega)
  have hgv : g < w.heap.size → v.ownBlock = some g := fun h => by
    rcases hv with h' | h'
    · exact h'.symm
    · simp only [Value.ownBlock, Option.some.injEq] at h'; omega
  have keep : ∀ j, j < wc.heap.size → some j ≠ v.ownBlock → W'.heap[j]? = wc.heap[j]? := fun j hj hn => (hg.block j (by omega) hn).trans (hy.block j hj)
  have hne : some hb ≠ v.ownBlock := fun e => h0.ne e.symm
  have hbk := (keep hb (lt_of_block D.hp.blk) hne).trans D.hp.blk
  have hgb : g ≠ hb := by
    intro e
    subst e
    have := hb2.symm.trans hbk
    simp at this
  have ho' : (W'.setCell ⟨hb, 1, none⟩ (.slice (some ⟨g, 0, none⟩) (L.length + 1) cap)).ownsRow B 67 3 (.slice (some ⟨g, 0, none⟩) (L.length + 1) cap) (L.length + 1) (flat L ++ x.cells) :=
    ownsRow_setCell_other ho (by simpa [Value.ownBlock] using hgb) _
  have oth : ∀ j, j ≠ hb → (W'.setCell ⟨hb, 1, none⟩ (.slice (some ⟨g, 0, none⟩) (L.length + 1) cap)).heap[j]? = W'.heap[j]? := fun j hj => heap_setCell_other W' ⟨hb, 1, none⟩ j _ (fun e => hj (by simp [e]))
  refine ⟨⟨?_, ?_⟩, ?_, ?_, ?_, ?_, ?_, ?_⟩
  · rw [show (L ++ [x]).length = L.length + 1 by simp]
    have := heap_setCell_same W' hb 1 _ _ (.slice (some ⟨g, 0, none⟩) (L.length + 1) cap) hbk
    simpa using this
  · rw [show (L ++ [x]).length = L.length + 1 by simp, flat_append]
    simpa [flat] using ho'
  · refine ⟨hp.1, ?_⟩
    rcases hp.2 with h | ⟨q, c, cr, rfl, q1, q2, q3⟩
    · exact .inl h
    · refine .inr ⟨q, c, cr, rfl, q1, ?_, q3⟩
      rw [oth q (by omega), keep q (lt_of_block q2) (fun e => by have := hlow q e.symm; omega)]
      exact q2
  · intro e
    have := hp.lt g e
    omega
  · omega
  · rw [oth _ (by omega), keep _ (lt_of_block D.bx) (fun e => by have := hlow _ e.symm; omega)]
    exact D.bx
  · have hb' := D.below
    refine ⟨?_, ?_, ?_, ?_, fun j hj h1 h2 => ?_⟩
    · exact hg.os.trans (hy.os.trans hb'.os)
    · exact hg.tape.trans (hy.tape.trans hb'.tape)
    · exact hg.output.trans (hy.output.trans hb'.output)
    · have := hg.size; have := hb'.size; simp; omega
    · rw [oth j h1, keep j (by have := hb'.size; omega) h2, hb'.block j hj]
  · rcases hgn with h | h
    · exact .inl (hgv h).symm
    · exact .inr ⟨g, rfl, by have := D.below.size; omega⟩

theorem Pu.later {w wx W : World} {B b0 hb g cap : Nat} {fid : FuncId} {v p : Value} {M : List It} {x : It} {n k : Nat} (P : Pu w wx B b0 hb g cap fid v p M x n k) (h : Below wx.heap.size wx W) : Pu w W B b0 hb g cap fid v p M x n k :=
  ⟨P.hp.ext ⟨W, h⟩, own_ext ⟨W, h⟩ P.path, P.apart, P.item, ext_block ⟨W, h⟩ P.bx, P.tch.trans (Touch.of_below (hb := hb) v.ownBlock h) (Same_or_new.refl _ _), P.sn⟩
theorem Pu.put {w wx : World} {B b0 hb g cap : Nat} {fid : FuncId} {v p : Value} {M : List It} {x : It} {n k : Nat} (P : Pu w wx B b0 hb g cap fid v p M x n k) (i : Nat) (y : It) : Pu w (put3 wx g i y) B b0 hb g cap fid v p (M.set i y) x n k := by
  obtain ⟨h1, h2⟩ := P.hp.put i y
  refine ⟨by rw [List.length_set]; exact h1, ?_, P.apart, P.item, ?_, P.tch.trans (Touch.of_grown h2) P.sn, P.sn⟩
  · refine ⟨P.path.1, ?_⟩
    rcases P.path.2 with h | ⟨q, c, cr, rfl, q1, q2, q3⟩
    · exact .inl h
    · refine .inr ⟨q, c, cr, rfl, q1, ?_, q3⟩
      rw [h2.block q (lt_of_block q2) P.apart]
      exact q2
  · rw [h2.block _ (lt_of_block P.bx) (fun e => P.item (by simpa using e.symm))]
    exact P.bx
theorem Pu.at {w wx : World} {B b0 hb g cap : Nat} {fid : FuncId} {v p : Value} {M : List It} {x : It} {n k : Nat} (P : Pu w wx B b0 hb g cap fid v p M x n k) (i : Nat) (hi : i < M.length) :
    wx.cell? ⟨g, i * 3, none⟩ = some (.int .i64 (at_ M i).key) ∧ wx.cell? ⟨g, i * 3 + 1, none⟩ = some (.int .i64 (at_ M i).name) ∧ wx.cell? ⟨g, i * 3 + 2, none⟩ = some (.int .i64 (at_ M i).ord) ∧
    wx.frozen? ⟨g, i * 3, none⟩ = false ∧ wx.frozen? ⟨g, i * 3 + 1, none⟩ = false ∧ wx.frozen? ⟨g, i * 3 + 2, none⟩ = false ∧ g < wx.heap.size := by
  obtain ⟨g', cap', hv, _, hs, _, _, ⟨cur, hc, _⟩, hat⟩ := own_items P.hp.row (by omega)
  simp only [Value.slice.injEq, Option.some.injEq, Addr.mk.injEq, true_and, and_true] at hv
  obtain ⟨rfl, rfl⟩ := hv
  obtain ⟨a1, a2, a3⟩ := hat i hi
  refine ⟨a1, a2, a3, ?_, ?_, ?_, hs⟩ <;> simp [World.frozen?, hc]
theorem Pu.pathAt {w wx : World} {B b0 hb g cap : Nat} {fid : FuncId} {v p : Value} {M : List It} {x : It} {n k : Nat} (P : Pu w wx B b0 hb g cap fid v p M x n k) (hk : 0 < k) :
    ∃ q c, p = .slice (some ⟨q, 0, none⟩) k c ∧ q < wx.heap.size ∧ ∀ j, j < k → wx.cell? ⟨q, j, none⟩ = some (.int .i64 (anc n (j + 1))) := by
  rcases P.path.2 with ⟨_, h⟩ | ⟨q, c, cr, rfl, q1, q2, q3, q4, q5, q6⟩
  · omega
  · refine ⟨q, c, rfl, lt_of_block q2, fun j hj => ?_⟩
    have e := congrArg (fun l => l[j]?) q6
    simp only [List.getElem?_take, Nat.mul_one, hj, if_true] at e
    have e2 : (pathU n k)[j]? = some (.int .i64 (anc n (j + 1))) := by simp [pathU, hj]
    simpa [World.cell?, q2] using e.trans e2
theorem Pu.hpc {w wx : World} {B b0 hb g cap : Nat} {fid : FuncId} {v p : Value} {M : List It} {x : It} {n k : Nat} (P : Pu w wx B b0 hb g cap fid v p M x n k) :
    wx.cell? ⟨w.heap.size + 1, 0, none⟩ = some (.int .i64 x.key) ∧ wx.cell? ⟨w.heap.size + 1, 1, none⟩ = some (.int .i64 x.name) ∧ wx.cell? ⟨w.heap.size + 1, 2, none⟩ = some (.int .i64 x.ord) ∧ w.heap.size + 1 < wx.heap.size := by
  refine ⟨?_, ?_, ?_, lt_of_block P.bx⟩ <;> simp [World.cell?, P.bx]
theorem Pu.bump {w wx : World} {B b0 hb g cap : Nat} {fid : FuncId} {v p : Value} {M : List It} {x : It} {n k : Nat} (P : Pu w wx B b0 hb g cap fid v p M x n k) (nx : Int) :
    HpAt (wx.setCell ⟨hb, 2, none⟩ (.int .i64 nx)) B hb fid (.slice (some ⟨g, 0, none⟩) M.length cap) M nx ∧ Touch hb v.ownBlock w (wx.setCell ⟨hb, 2, none⟩ (.int .i64 nx)) := by
  refine ⟨⟨?_, ownsRow_setCell_other P.hp.row (by simpa [Value.ownBlock] using P.hp.ne) _⟩, P.tch.trans (Touch.cell (ov := v.ownBlock) wx 2 _) (Same_or_new.refl _ _)⟩
  have := heap_setCell_same wx hb 2 _ _ (.int .i64 nx) P.hp.blk
  simpa using this
theorem cells_new (w : World) (x : It) (t : TypeId) : ∀ j u, x.cells[j]? = some u → ((w.alloc (Obj.cells #[.int .i64 x.key, .int .i64 x.name, .int .i64 x.ord] t)).drew).cell? ((⟨w.heap.size, 0, none⟩ : Addr).add j) = some u := by
  intro j u h
  have hb : ((w.alloc (Obj.cells #[.int .i64 x.key, .int .i64 x.name, .int .i64 x.ord] t)).drew).heap[w.heap.size]? = some (Obj.cells #[.int .i64 x.key, .int .i64 x.name, .int .i64 x.ord] t) := alloc_new w _
  have e : (⟨w.heap.size, 0, none⟩ : Addr).add j = ⟨w.heap.size, j, none⟩ := by cases j <;> simp [Addr.add]
  have : (#[Value.int .i64 x.key, .int .i64 x.name, .int .i64 x.ord] : Array Value)[j]? = some u := by
    simpa [It.cells] using h
  rw [e]
  unfold World.cell?
  rw [hb]
  simpa using this
theorem one_cells (x : It) : ∀ u ∈ x.cells, u.oneCell' = true := by
  intro u hu
  simp only [It.cells, List.mem_cons, List.not_mem_nil, or_false] at hu
  rcases hu with rfl | rfl | rfl <;> rfl

set_option maxRecDepth 100000 in
set_option maxHeartbeats 4000000 in
theorem push_any (hb : Nat) (fid : FuncId) (ls : Int → Int → Int → Int → Bool) (HL : Less fid ls) (L : List It) (hlen : L.length ≤ 1000000) (B : Nat) (v : Value) (x : It) (hnx : 0 ≤ x.ord) (hny : x.ord ≤ 1000000) (w : World) (hB : B ≤ w.heap.size) (H : HpAt w B hb fid v L x.ord) :
    Calls Try.prog 16 #[.pointer (some ⟨hb, 0, none⟩), .agg #[.int .i64 x.key, .int .i64 x.name]] w (RetPush ls L x B hb fid v w) := by
  obtain ⟨i0, hi, hz0, hz1, hz2⟩ := info_parts infoI
  have hmf : ∀ (fn : Fn) (first cap : Array Value) (w : World), (Instr.makeFunc fn first cap).run Try.prog w = .ok (.func fn first cap) w := fun _ _ _ _ => rfl
  obtain ⟨h1, h2, h3, h4, h5, h6⟩ := H.cells
  have HH := Lib.hid H
  obtain ⟨av, cap, hv⟩ := own_len H.row
  subst hv
  clear H
  go_enter_defers Try.func16, Try.ntmps16
  go_wp2_with (go_at_call 36; refine (usable_yes hb fid _ (by simp [go_sem, *])).mono ?_; rintro e _ ⟨rfl, rfl⟩)
  go_region
  obtain ⟨V, hV, D, sV⟩ := Psh.start x HH.out (Obj.cells #[.int .i64 x.key, .int .i64 x.name] 26)
  rw [hV]
  clear hV h1 h2 h3 h4 h5 h6
  obtain ⟨x1, x2, x3, x4⟩ := D.cells
  obtain ⟨h1, h2, h3, h4, h5, h6⟩ := D.hp.cells
  have HD := Lib.hid D
  clear D
  have hown0 : V.ownsRow V.heap.size 3 1 (.slice none 0 0) 0 (pathU L.length 0) := ⟨rfl, .inl ⟨rfl, rfl⟩⟩
  go_upto_block 0 with fail
  go_cut [5, 6, 7] from 25 to 45 (fun p a u wx => ∃ k : Nat, Stops (bfr ls) L x k ∧ wx.ownsRow V.heap.size 3 1 p k (pathU L.length k) ∧ Below V.heap.size V wx)
  case first =>
    go_wp2_with fail
    go_loopw [5, 6, 7] (fun p a u wr => ∃ k : Nat, Passes (bfr ls) L x k ∧ a = .int .i64 (anc L.length k) ∧ wr.ownsRow V.heap.size 3 1 p k (pathU L.length k) ∧ Below V.heap.size V wr) (fun _ a _ _ => (intOf a).toNat)
    case atStart => exact ⟨0, fun i hi => by omega, rfl, hown0, Below.refl _ _⟩
    case round =>
      obtain ⟨k, hk, rfl, hown, bV⟩ := hrel
      have D := HD.out.later bV
      clear x1 x2 x3 x4 h1 h2 h3 h4 h5 h6
      obtain ⟨x1, x2, x3, x4⟩ := D.cells
      obtain ⟨h1, h2, h3, h4, h5, h6⟩ := D.hp.cells
      have SK := Lib.hid hk
      clear hk
      by_cases c0 : anc L.length k = 0
      · have ST := Lib.hid (show Stops (bfr ls) L x k from ⟨SK.out, .inl c0⟩)
        rw [c0]
        clear c0
        go_wp2_with fail
        go_meet
        exact ⟨k, ST.out, hown, bV⟩
      · obtain ⟨a, ha⟩ : ∃ a, anc L.length k = a + 1 := ⟨anc L.length k - 1, by omega⟩
        have hup : anc L.length (k + 1) = a / 2 := by simp [anc, ha]
        have hle := anc_le L.length k
        rw [ha] at hle
        obtain ⟨g, cap', hv, hg, hgs, hcap, hmax, _, hcs⟩ := own_items D.hp.row (by omega)
        simp only [Value.slice.injEq, true_and] at hv
        obtain ⟨rfl, rfl⟩ := hv
        obtain ⟨b, hab⟩ : ∃ b : Nat, a / 2 = b := ⟨_, rfl⟩
        rw [hab] at hup
        have hq : (a : Int) / 2 = (b : Int) := by omega
        have hbl : b < L.length := by omega
        have hba : b ≤ a := by omega
        have hbm : b ≤ 1000000 := by omega
        obtain ⟨e1, e2, e3⟩ := hcs b (by omega)
        clear hcs D hab
        have HA := Lib.hid ha
        have HU := Lib.hid hup
        have HQ := Lib.hid hq
        rw [ha]
        clear ha hup c0 hq
        cases cb : bfr ls x (at_ L b)
        · have ST := Lib.hid (show Stops (bfr ls) L x k from ⟨SK.out, .inr (by rw [HU.out]; exact cb)⟩)
          have CB := Lib.hid cb
          clear cb
          go_wp2_with fail
          rw [HQ.out]
          refine wp_region_ext (by kernel_rfl) (by kernel_rfl) ?_
          repeat (go_big_quiet_step ((go_at_call 38; exact Calls.extq (lit_of (before_any hb fid ls HL x (at_ L b) _ (by simp [go_sem, *]) (by simp [go_sem, *])) CB.out))))
          refine wpQuiet_nil ?_
          rintro _ ⟨y, rfl⟩
          go_wp2_with fail
          go_meet
          exact ⟨k, ST.out, own_ext y hown, Ext.below bV bV.size y⟩
        · have ST := Lib.hid (show Passes (bfr ls) L x (k + 1) from fun i hi => by
            by_cases e : i = k
            · subst e; exact ⟨by rw [HA.out]; omega, by rw [HU.out]; exact cb⟩
            · exact SK.out i (by omega))
          have CB := Lib.hid cb
          clear cb
          go_wp2_with fail
          rw [HQ.out]
          refine wp_region_ext (by kernel_rfl) (by kernel_rfl) ?_
          repeat (go_big_quiet_step ((go_at_call 38; exact Calls.extq (lit_of (before_any hb fid ls HL x (at_ L b) _ (by simp [go_sem, *]) (by simp [go_sem, *])) CB.out))))
          refine wpQuiet_nil ?_
          rintro _ ⟨y, rfl⟩
          have ho := own_ext y hown
          have hkm : k ≤ L.length := by
            have key : ∀ j, j ≤ k → anc L.length j + j ≤ L.length := by
              intro j
              induction j with
              | zero => intro _; exact Nat.le_refl _
              | succ j ih => intro hj; have := ih (by omega); have := anc_lt (SK.out j (by omega)).1; omega
            have := key k (Nat.le_refl _)
            omega
          go_wp2_with (at_builtin; refine wpList_append_own _ rfl (.tmp 41) (.tmp 43) 22 rfl V.heap.size 3 i0 (.int .i64 0) 1 8 Try.underlying22 hi hz0 hz1 hz2 rfl (by decide) _ _ _ rfl (ho.alloc _) ⟨World.heap y.w |>.size, 0, none⟩ 1 1 [.int .i64 (b : Int)] rfl rfl (cell_one_new _ _ _) (by simp [Value.oneCell']) (by unfold maxLen; omega) (by omega) (by have := bV.size; have := y.h.size; rw [World.size_alloc]; omega) ?_; intro v' W' hown' hgrow _)
          have bW := grown_below y bV ho hgrow
          clear hgrow ho
          go_roundw
          case rel => exact ⟨k + 1, ST.out, by rw [HU.out], by rw [pathU_succ, HU.out]; exact hown', bW⟩
          case measure => simp [intOf]; omega
  case rest =>
    obtain ⟨k, hS, hown, bV⟩ := hcut
    have D := HD.out.later bV
    clear x1 x2 x3 x4 h1 h2 h3 h4 h5 h6 hown0
    obtain ⟨x1, x2, x3, x4⟩ := D.cells
    obtain ⟨h1, h2, h3, h4, h5, h6⟩ := D.hp.cells
    have ST := Lib.hid hS
    have HW := Lib.hid D
    clear hS HD D
    obtain ⟨i1, hi1, hy0, hy1, hy2⟩ := info_parts infoT
    have HNE := Lib.hid (show some hb ≠ Value.ownBlock (.slice av L.length cap) from fun e => HH.out.ne e.symm)
    go_upto_region 12 with fail
    go_cut [51] from 52 to 60 (fun _ wx => ∃ g cap', Pu w wx B V.heap.size hb g cap' fid (.slice av L.length cap) u5 (L ++ [x]) x L.length k)
    case first =>
      refine wp_region_noPanic ?_
      go_region_law (refine step_append_own rfl (.tmp 55) (.tmp 57) 63 rfl B 67 i1 _ 3 24 Try.underlying63 hi1 hy0 hy1 hy2 rfl (by decide) (.slice av L.length cap) L.length (flat L) (by simp [Act.eval, Act.put]) (HW.out.hp.row.alloc _) ⟨wc.heap.size, 0, none⟩ 1 1 x.cells (by simp [Act.eval, Act.put]) rfl (cells_new _ _ _) (one_cells x) (by unfold maxLen; omega) (by omega) (by show B ≤ (World.drew _).heap.size; simp [World.drew]; omega) ?_; intro v' W' hown' hgrow hat; obtain ⟨av', cp', rfl⟩ := own_len hown'; have hc1 := hgrow.cell (a := ⟨hb, 1, none⟩) (v := .slice av L.length cap) (by simp [go_sem, *]) HNE.out; have hf1 : W'.frozen? ⟨hb, 1, none⟩ = false := (World.frozen?_of_block (hgrow.block hb (by simp; omega) HNE.out)).trans (by simp [go_sem, *]))
      all_goals
        refine NoPanic.normal ?_
        go_wp2_with fail
        go_meet
        obtain ⟨g, cq, hq, P⟩ := Pu.made HH.out HW.out sV bV hown (Below.drew (Below.alloc (Below.refl _ _) (Nat.le_refl _) _)) hgrow hown' hat
        rw [hq] at *
        exact ⟨g, cq, P⟩
    case rest =>
      obtain ⟨g, cq, P⟩ := hcut
      clear x1 x2 x3 x4 h1 h2 h3 h4 h5 h6
      obtain ⟨pa, pc, hpv⟩ := own_len P.path
      subst hpv
      have HP := Lib.hid P
      clear P
      have hposs : ∀ i, i < k → 0 < anc L.length i := fun i hi => (ST.out.1 i hi).1
      have HPS := Lib.hid hposs
      clear hposs
      go_wp2_with fail
      have hkL : k ≤ L.length := by
        have key : ∀ j, j ≤ k → anc L.length j + j ≤ L.length := by
          intro j
          induction j with
          | zero => intro _; exact Nat.le_refl _
          | succ j ih => intro hj; have := ih (by omega); have := anc_lt (HPS.out j (by omega)); omega
        have := key k (Nat.le_refl _)
        omega
      go_loopw [8, 10, 63] (fun a b i wr => ∃ j : Nat, j ≤ k ∧ a = .int .i64 (anc L.length j) ∧ i = .int .i64 (j : Int) ∧ Pu w wr B V.heap.size hb g cq fid (.slice av L.length cap) (.slice pa k pc) (shiftUp L x j) x L.length k) (fun _ _ i _ => k - (intOf i).toNat)
      case atStart => exact ⟨0, Nat.zero_le _, rfl, rfl, HP.out⟩
      case round =>
        obtain ⟨j, hj, rfl, rfl, P⟩ := hrel
        by_cases hjk : j < k
        · obtain ⟨q, c', hv, hqs, hpc⟩ := P.pathAt (by omega)
          simp only [Value.slice.injEq, true_and] at hv
          obtain ⟨rfl, rfl⟩ := hv
          have p1 := hpc j hjk
          clear hpc
          obtain ⟨h1, h2, h3, h4, h5, h6⟩ := P.hp.cells
          rw [shiftUp_length] at h2
          have hpj := HPS.out j hjk
          have hlt := anc_lt hpj
          have hle := anc_le L.length j
          obtain ⟨e1, e2, e3, _, _, _, hgs⟩ := P.at (anc L.length (j + 1)) (by rw [shiftUp_length]; omega)
          rw [shiftUp_at j (fun i hi => HPS.out i (by omega)) _ (by omega) (fun i hi => by have := anc_strict (n := L.length) HPS.out (show i < j + 1 by omega) (by omega); omega)] at e1 e2 e3
          obtain ⟨f1, f2, f3, f4, f5, f6, _⟩ := P.at (anc L.length j) (by rw [shiftUp_length]; omega)
          have HPj := Lib.hid P
          clear P
          obtain ⟨a, ha⟩ : ∃ a, anc L.length j = a := ⟨_, rfl⟩
          obtain ⟨b, hb'⟩ : ∃ b, anc L.length (j + 1) = b := ⟨_, rfl⟩
          rw [hb'] at p1 e1 e2 e3 hlt
          rw [ha] at f1 f2 f3 f4 f5 f6 hpj hlt hle
          have HA := Lib.hid ha
          have HB := Lib.hid hb'
          rw [ha]
          clear ha hb'
          have hbl : b < L.length + 1 := by omega
          have hal : a < L.length + 1 := by omega
          go_wp2_with fail
          refine wp_region_ext_tail 13 (by kernel_rfl) (by kernel_rfl) ?_
          simp only [List.take_succ_cons, List.take_zero, List.drop_succ_cons, List.drop_zero]
          repeat (go_big_quiet_step (fail))
          refine wpQuiet_nil ?_
          rintro _ ⟨x1, rfl⟩
          go_wp2_with fail
          go_roundw
          case rel =>
            have hsu : shiftUp L x (j + 1) = (shiftUp L x j).set a (at_ L b) := by rw [← HA.out, ← HB.out]; rfl
            exact ⟨j + 1, by omega, by rw [HB.out], by go_num, by rw [hsu]; exact (HPj.out.later x1.h).put a (at_ L b)⟩
          case measure => simp [intOf]; omega
        · obtain rfl : k = j := by omega
          obtain ⟨h1, h2, h3, h4, h5, h6⟩ := P.hp.cells
          obtain ⟨x1, x2, x3, x4⟩ := P.hpc
          rw [shiftUp_length] at h2
          have hle := anc_le L.length k
          obtain ⟨f1, f2, f3, f4, f5, f6, hgs⟩ := P.at (anc L.length k) (by rw [shiftUp_length]; omega)
          have HPj := Lib.hid P
          clear P
          have HGB := Lib.hid HPj.out.hp.ne
          obtain ⟨a, ha⟩ : ∃ a, anc L.length k = a := ⟨_, rfl⟩
          rw [ha] at f1 f2 f3 f4 f5 f6 hle
          have HA := Lib.hid ha
          rw [ha]
          clear ha
          have hal : a < L.length + 1 := by omega
          go_wp2_with fail
          refine wp_region_ext_tail 7 (by kernel_rfl) (by kernel_rfl) ?_
          simp only [List.take_succ_cons, List.take_zero, List.drop_succ_cons, List.drop_zero]
          repeat (go_big_quiet_step (fail))
          refine wpQuiet_nil ?_
          rintro _ ⟨x1, rfl⟩
          have hgb : g ≠ hb := fun e => HGB.out (by simp [Value.ownBlock, e])
          have hbg : hb ≠ g := fun e => hgb e.symm
          go_wp2_with fail
          refine leaves_cons (f := 37) (args := #[]) (by simp) (by simp [go_sem]) ?_
          refine (push_idle _).mono ?_
          rintro e u' w'' ⟨rfl, rfl, rfl⟩
          have PP := (HPj.out.later x1.h).put a x
          obtain ⟨b1, b2⟩ := PP.bump (x.ord + 1)
          have hsu : pushK L x k = (shiftUp L x k).set a x := by rw [← HA.out]; rfl
          exact ⟨_, results_none rfl _ _ _, rfl, k, .slice (some ⟨g, 0, none⟩) ((shiftUp L x k).set a x).length cq, ST.out, by rw [hsu]; exact b1, b2, PP.sn⟩

end Go.Proofs.Ytekdjjfbkcgmhaa
