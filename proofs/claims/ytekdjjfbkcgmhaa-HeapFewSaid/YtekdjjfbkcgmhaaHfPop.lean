/-
  What is proved here: what (*Heap).Pop does to the count (instance uint16).
-/
import Derived.Test.YtekdjjfbkcgmhaaHfDescend
namespace Go.Proofs.Ytekdjjfbkcgmhaa
open Go.RowKit Hp
set_option linter.unusedVariables false
set_option linter.unusedSimpArgs false

theorem popU_idle (p q r : Addr) (w : World) :
    CallsD Try.prog 42 #[.pointer (some p), .pointer (some q), .pointer (some r)] .returning w fun e u' w' => e = .returned (.tuple #[]) ∧ u' = .returning ∧ w' = w := by
  refine callsD_of_wpS Try.func42 rfl fun c₀ cs hu => ?_
  apply wpS_seq
  apply wpS_region
  simp [wpOpsS, go_sem, recoverD, hu, Try.ntmps42, Exit.thenS]
  refine wpS_cond (t := false) (by simp [Act.eval, Array.replicate]) ?_
  simp only [Bool.false_eq_true, if_false]
  refine wpS_of_wp (wp_skip ?_)
  cases c₀
  simp_all [bodyPostS, results, Try.results42]

structure PoU (w wx : World) (B b0 hb kb g cap : Nat) (p : Value) (M : List Iu) (nx c : Int) (x : Iu) (f : Int) (ok : Bool) (ps : List Nat) : Prop where
  hp : HpU wx B hb kb (.slice (some ⟨g, 0, none⟩) M.length cap) M nx c
  path : wx.ownsRow b0 3 1 p ps.length (pathN ps)
  low : g < w.heap.size
  hlow : hb < w.heap.size
  klow : kb < w.heap.size
  high : w.heap.size + 1 + 1 + 1 < b0
  k0 : wx.heap[w.heap.size]? = some (.cells #[.int .u16 f] 38 (0, 0))
  k1 : wx.heap[w.heap.size + 1]? = some (.cells #[.bool ok] 4 (0, 0))
  k3 : wx.heap[w.heap.size + 1 + 1 + 1]? = some (.cells #[.int .u16 x.key, .int .i64 x.ord] 73 (0, 0))
  bel : Below B w wx
section
variable {w wx W : World} {B b0 hb kb g cap : Nat} {p : Value} {M : List Iu} {nx c c' : Int} {x : Iu} {f : Int} {ok : Bool} {ps : List Nat}
theorem PoU.later (P : PoU w wx B b0 hb kb g cap p M nx c x f ok ps) (hB : B ≤ w.heap.size) (h : Below wx.heap.size wx W) : PoU w W B b0 hb kb g cap p M nx c x f ok ps :=
  ⟨P.hp.later h, own_ext ⟨W, h⟩ P.path, P.low, P.hlow, P.klow, P.high, ext_block ⟨W, h⟩ P.k0, ext_block ⟨W, h⟩ P.k1, ext_block ⟨W, h⟩ P.k3, P.bel.trans (h.mono (by have := P.bel.size; omega))⟩
theorem PoU.step (P : PoU w wx B b0 hb kb g cap p M nx c x f ok ps) (hB : B ≤ w.heap.size) (h : Cx kb wx W c') {p' : Value} {ps' : List Nat} (hp : W.ownsRow b0 3 1 p' ps'.length (pathN ps')) : PoU w W B b0 hb kb g cap p' M nx c' x f ok ps' := by
  have := P.klow
  exact ⟨P.hp.step h, hp, P.low, P.hlow, P.klow, P.high, (h.block _ (lt_of_block P.k0) (by omega)).trans P.k0, (h.block _ (lt_of_block P.k1) (by omega)).trans P.k1, (h.block _ (lt_of_block P.k3) (by omega)).trans P.k3, P.bel.trans (h.below P.hp.lowk (by have := P.bel.size; omega))⟩
theorem PoU.start {v : Value} (h : HpU w B hb kb (.slice (some ⟨g, 0, none⟩) M.length cap) M nx c) (hB : B ≤ w.heap.size) (hg : g < w.heap.size) (x : Iu) :
    ∃ V, (((w.alloc (Obj.cells #[.int .u16 0] 38)).alloc (Obj.cells #[.bool false] 4)).alloc (Obj.cells #[.int .u16 0] 38)).alloc (Obj.cells #[.int .u16 x.key, .int .i64 x.ord] 73) = V ∧
      PoU w V B V.heap.size hb kb g cap (.slice none 0 0) M nx c x 0 false [] := by
  have hb' : Below w.heap.size w ((((w.alloc (Obj.cells #[.int .u16 0] 38)).alloc (Obj.cells #[.bool false] 4)).alloc (Obj.cells #[.int .u16 0] 38)).alloc (Obj.cells #[.int .u16 x.key, .int .i64 x.ord] 73)) :=
    ((((Below.refl _ _).alloc (Nat.le_refl _) _).alloc (by simp) _).alloc (by simp; omega) _).alloc (by simp; omega) _
  refine ⟨_, rfl, h.later hb', ⟨rfl, .inl ⟨rfl, rfl⟩⟩, hg, lt_of_block h.blk, lt_of_block h.cnt, by simp, ?_, ?_, ?_, hb'.mono hB⟩
  · exact alloc_block _ (alloc_block _ (alloc_block _ (alloc_new _ _)))
  · have := alloc_new (w.alloc (Obj.cells #[.int .u16 0] 38)) (Obj.cells #[.bool false] 4)
    rw [World.size_alloc] at this
    exact alloc_block _ (alloc_block _ this)
  · have := alloc_new (((w.alloc (Obj.cells #[.int .u16 0] 38)).alloc (Obj.cells #[.bool false] 4)).alloc (Obj.cells #[.int .u16 0] 38)) (Obj.cells #[.int .u16 x.key, .int .i64 x.ord] 73)
    rw [World.size_alloc, World.size_alloc, World.size_alloc] at this
    exact this
theorem PoU.put (P : PoU w wx B b0 hb kb g cap p M nx c x f ok ps) (hB : B ≤ w.heap.size) (i : Nat) (y : Iu) : PoU w (put2 wx g i y) B b0 hb kb g cap p (M.set i y) nx c x f ok ps := by
  obtain ⟨h1, h2, h3⟩ := P.hp.put i y
  have hl := P.low
  have hh := P.high
  have keep : ∀ q, q < wx.heap.size → q ≠ g → (put2 wx g i y).heap[q]? = wx.heap[q]? := fun q hq hn => h2.block q hq (by simpa using hn)
  refine ⟨by rw [List.length_set]; exact h1, ?_, P.low, P.hlow, P.klow, P.high, ?_, ?_, ?_, P.bel.grown h2 (by have := P.bel.size; omega) (fun k hk => by simp at hk; omega)⟩
  · refine ⟨P.path.1, ?_⟩
    rcases P.path.2 with h | ⟨q, c', cr, rfl, q1, q2, q3⟩
    · exact .inl h
    · refine .inr ⟨q, c', cr, rfl, q1, ?_, q3⟩
      rw [keep q (lt_of_block q2) (by omega)]
      exact q2
  · rw [keep _ (lt_of_block P.k0) (by omega)]; exact P.k0
  · rw [keep _ (lt_of_block P.k1) (by omega)]; exact P.k1
  · rw [keep _ (lt_of_block P.k3) (by omega)]; exact P.k3
theorem PoU.at (P : PoU w wx B b0 hb kb g cap p M nx c x f ok ps) (i : Nat) (hi : i < M.length) :
    wx.cell? ⟨g, i * 2, none⟩ = some (.int .u16 (at_ M i).key) ∧ wx.cell? ⟨g, i * 2 + 1, none⟩ = some (.int .i64 (at_ M i).ord) ∧
    wx.frozen? ⟨g, i * 2, none⟩ = false ∧ wx.frozen? ⟨g, i * 2 + 1, none⟩ = false ∧ g < wx.heap.size := by
  obtain ⟨g', cap', hv, _, hs, _, _, _, hat⟩ := own_itemsU P.hp.row (by omega)
  simp only [Value.slice.injEq, Option.some.injEq, Addr.mk.injEq, true_and, and_true] at hv
  obtain ⟨rfl, rfl⟩ := hv
  obtain ⟨a1, a2, a3, a4⟩ := hat i hi
  exact ⟨a1, a2, a3, a4, hs⟩
theorem PoU.pathAt (P : PoU w wx B b0 hb kb g cap p M nx c x f ok ps) (hk : 0 < ps.length) :
    ∃ q c, p = .slice (some ⟨q, 0, none⟩) ps.length c ∧ q < wx.heap.size ∧ ∀ j (h : j < ps.length), wx.cell? ⟨q, j, none⟩ = some (.int .i64 (ps[j] : Nat)) := by
  rcases P.path.2 with ⟨_, h⟩ | ⟨q, c, cr, rfl, q1, q2, q3, q4, q5, q6⟩
  · omega
  · refine ⟨q, c, rfl, lt_of_block q2, fun j hj => ?_⟩
    have e := congrArg (fun l => l[j]?) q6
    simp only [List.getElem?_take, Nat.mul_one, hj, if_true] at e
    have e2 : (pathN ps)[j]? = some (.int .i64 (ps[j] : Nat)) := by simp [pathN, hj]
    simpa [World.cell?, q2] using e.trans e2
theorem PoU.first (P : PoU w wx B b0 hb kb g cap p M nx c x f ok ps) (hB : B ≤ w.heap.size) (a : Int) : PoU w (wx.setCell ⟨w.heap.size, 0, none⟩ (.int .u16 a)) B b0 hb kb g cap p M nx c x a ok ps := by
  have hl := P.low
  have hh := P.high
  have hhl := P.hlow
  have hkl := P.klow
  have keep : ∀ q, q ≠ w.heap.size → (wx.setCell ⟨w.heap.size, 0, none⟩ (.int .u16 a)).heap[q]? = wx.heap[q]? := fun q hn => heap_setCell_other _ ⟨w.heap.size, 0, none⟩ q _ (fun e => hn (by simp [e]))
  refine ⟨⟨(keep hb (by omega)).trans P.hp.blk, ownsRow_setCell_other P.hp.row (by simp [Value.ownBlock]; omega) _, (keep kb (by omega)).trans P.hp.cnt, P.hp.lowh, P.hp.lowk⟩, ?_, P.low, P.hlow, P.klow, P.high, ?_, (keep _ (by omega)).trans P.k1, (keep _ (by omega)).trans P.k3, P.bel.setCell (by simp; omega) _⟩
  · refine ⟨P.path.1, ?_⟩
    rcases P.path.2 with h | ⟨q, c', cr, rfl, q1, q2, q3⟩
    · exact .inl h
    · exact .inr ⟨q, c', cr, rfl, q1, (keep q (by omega)).trans q2, q3⟩
  · have h1 := heap_setCell_same wx w.heap.size 0 _ _ (.int .u16 a) P.k0
    simpa using h1
theorem PoU.cells (P : PoU w wx B b0 hb kb g cap p M nx c x f ok ps) :
    wx.cell? ⟨w.heap.size, 0, none⟩ = some (.int .u16 f) ∧ wx.cell? ⟨w.heap.size + 1, 0, none⟩ = some (.bool ok) ∧ wx.cell? ⟨w.heap.size + 1 + 1 + 1, 0, none⟩ = some (.int .u16 x.key) ∧ wx.cell? ⟨w.heap.size + 1 + 1 + 1, 1, none⟩ = some (.int .i64 x.ord) ∧
    wx.frozen? ⟨w.heap.size, 0, none⟩ = false ∧ wx.frozen? ⟨w.heap.size + 1, 0, none⟩ = false ∧ w.heap.size + 1 + 1 + 1 < wx.heap.size := by
  refine ⟨?_, ?_, ?_, ?_, ?_, ?_, lt_of_block P.k3⟩ <;> simp [World.cell?, World.frozen?, P.k0, P.k1, P.k3]
theorem PoU.shut (P : PoU w wx B b0 hb kb g cap p M nx c x f ok ps) (hB : B ≤ w.heap.size) (n : Nat) (hn : M.length = n + 1) (a : Int) (d : Bool) :
    HpU (((wx.setCell ⟨hb, 1, none⟩ (.slice (some ⟨g, 0, none⟩) n cap)).setCell ⟨w.heap.size, 0, none⟩ (.int .u16 a)).setCell ⟨w.heap.size + 1, 0, none⟩ (.bool d)) B hb kb (.slice (some ⟨g, 0, none⟩) n cap) (M.take n) nx c ∧
    Below B w (((wx.setCell ⟨hb, 1, none⟩ (.slice (some ⟨g, 0, none⟩) n cap)).setCell ⟨w.heap.size, 0, none⟩ (.int .u16 a)).setCell ⟨w.heap.size + 1, 0, none⟩ (.bool d)) := by
  have hl := P.low
  have hh := P.high
  have hhl := P.hlow
  have hkl := P.klow
  obtain ⟨n1, n2, n3⟩ := P.hp.ne
  simp only [Value.ownBlock, ne_eq, Option.some.injEq] at n1 n2
  obtain ⟨W, hW⟩ : ∃ W, ((wx.setCell ⟨hb, 1, none⟩ (.slice (some ⟨g, 0, none⟩) n cap)).setCell ⟨w.heap.size, 0, none⟩ (.int .u16 a)).setCell ⟨w.heap.size + 1, 0, none⟩ (.bool d) = W := ⟨_, rfl⟩
  have keep : ∀ q, q ≠ hb → q < w.heap.size → W.heap[q]? = wx.heap[q]? := fun q h1 h2 => by
    rw [← hW, heap_setCell_other _ ⟨w.heap.size + 1, 0, none⟩ q _ (by simp; omega), heap_setCell_other _ ⟨w.heap.size, 0, none⟩ q _ (by simp; omega), heap_setCell_other _ ⟨hb, 1, none⟩ q _ (by simp; omega)]
  have kb' : W.heap[hb]? = some (.cells #[cfn kb, .slice (some ⟨g, 0, none⟩) n cap, .int .i64 nx] 71 (0, 0)) := by
    rw [← hW, heap_setCell_other _ ⟨w.heap.size + 1, 0, none⟩ hb _ (by simp; omega), heap_setCell_other _ ⟨w.heap.size, 0, none⟩ hb _ (by simp; omega)]
    have := heap_setCell_same wx hb 1 _ _ (.slice (some ⟨g, 0, none⟩) n cap) P.hp.blk
    simpa using this
  have hbel : Below B w W := by
    rw [← hW]
    exact ((P.bel.setCell P.hp.lowh _).setCell (by simp; omega) _).setCell (by simp; omega) _
  rw [hW]
  obtain ⟨g', cap', hv, q1, _, q3, q4, ⟨cur, hc, q5, q6⟩, _⟩ := own_itemsU P.hp.row (by omega)
  simp only [Value.slice.injEq, Option.some.injEq, Addr.mk.injEq, true_and, and_true] at hv
  obtain ⟨rfl, rfl⟩ := hv
  have hlen : (M.take n).length = n := by simp; omega
  refine ⟨⟨kb', ?_, ?_, P.hp.lowh, P.hp.lowk⟩, hbel⟩
  · rw [hlen]
    refine ⟨by rw [flatU_length, hlen], .inr ⟨g, cap, cur, rfl, q1, ?_, by omega, q4, q5, ?_⟩⟩
    · rw [keep g (by omega) hl]; exact hc
    · rw [flatU_take, ← q6, List.take_take]
      congr 1
      omega
  · rw [keep kb (by omega) hkl]; exact P.hp.cnt
end

def RetPopU (n : Nat) (nx c : Int) (B hb kb : Nat) (w : World) (e : Ending) (w' : World) : Prop :=
  ∃ (y : Int) (v' : Value) (L' : List Iu) (d d' : Nat), e = .returned (.tuple #[.int .u16 y, .bool true]) ∧ L'.length = n ∧ HpU w' B hb kb v' L' nx (c + d') ∧ 2 ^ d ≤ n + 1 ∧ d' ≤ 2 * d ∧ Below B w w'
set_option maxRecDepth 100000 in
set_option maxHeartbeats 4000000 in
theorem pop_u (hb kb : Nat) (L : List Iu) (n : Nat) (hn : L.length = n + 1) (hlen : n ≤ 1000) (B : Nat) (v : Value) (nx c : Int) (h0c : 0 ≤ c) (h1c : c ≤ 1000) (w : World) (hB : B ≤ w.heap.size) (H : HpU w B hb kb v L nx c) :
    Calls Try.prog 22 #[.pointer (some ⟨hb, 0, none⟩)] w (RetPopU n nx c B hb kb w) := by
  have hmf : ∀ (fn : Fn) (first cap : Array Value) (w : World), (Instr.makeFunc fn first cap).run Try.prog w = .ok (.func fn first cap) w := fun _ _ _ _ => rfl
  obtain ⟨h1, h2, h3, h4, h5, h6, k1, k2, k3⟩ := H.cells
  have HH := Lib.hid H
  obtain ⟨g, cap, hv, hgB, hgs, hcap, hmax, _, hcs⟩ := own_itemsU H.row (by omega)
  subst hv
  obtain ⟨e1, e2, _, _⟩ := hcs n (by omega)
  rw [hn] at h2
  clear H hcs
  have HN := Lib.hid hn
  clear hn
  have s1 : hb < w.heap.size + 1 := by omega
  have s2 : hb < w.heap.size + 1 + 1 := by omega
  have s3 : hb < w.heap.size + 1 + 1 + 1 := by omega
  have t1 : g < w.heap.size + 1 := by omega
  have t2 : g < w.heap.size + 1 + 1 := by omega
  have t3 : g < w.heap.size + 1 + 1 + 1 := by omega
  go_enter_defers Try.func22, Try.ntmps22
  go_upto_region 7 with (go_at_call 39; refine (usable_u hb kb _ (by simp [go_sem, *])).mono ?_; rintro e _ ⟨rfl, rfl⟩)
  obtain ⟨V, hV, P0⟩ := PoU.start (v := .slice none 0 0) HH.out hB hgs (at_ L n)
  rw [hV]
  clear hV h1 h2 h3 h4 h5 e1 e2 s1 s2 s3 t1 t2 t3 k1 k2
  obtain ⟨h1, h2, h3, h4, h5, _, k1, k2, _⟩ := P0.hp.cells
  obtain ⟨x1, x2, x4, x5, y1, y2, x7⟩ := P0.cells
  have HP0 := Lib.hid P0
  clear P0
  go_upto_region 8 with (go_at_call 43; refine (descend_u hb kb L n HN.out hlen B _ (at_ L n) nx c h0c h1c V HP0.out.hp).mono ?_; rintro e W ⟨ps, p, d, d', rfl, hps, hpd, hd, hdd, hown, hC⟩)
  have P1 := HP0.out.step hB hC hown
  clear h1 h2 h3 h4 h5 x1 x2 x4 x5 x7 y1 y2 k1 k2
  obtain ⟨h1, h2, h3, h4, h5, _, k1, k2, _⟩ := P1.hp.cells
  obtain ⟨x1, x2, x4, x5, y1, y2, x7⟩ := P1.cells
  obtain ⟨f1, f2, _⟩ := P1.at 0 (by rw [HN.out]; omega)
  rw [Nat.zero_mul] at f1
  rw [HN.out] at h2
  obtain ⟨pa, pc, hpv⟩ := own_len P1.path
  subst hpv
  have hpl := len_pow hpd
  have hdl := len_pow hd
  have HPS := Lib.hid hps
  have HDd := Lib.hid hd
  have HP1 := Lib.hid P1
  clear P1 hps hpd hd hown hC HP0
  go_wp2_with fail
  go_loopw [8, 10, 50] (fun a b i wr => ∃ (j m : Nat) (M : List Iu), j ≤ ps.length ∧ m < n + 1 ∧ a = .int .i64 (m : Int) ∧ i = .int .i64 (j : Int) ∧ M.length = n + 1 ∧ PoU w wr B V.heap.size hb kb g cap (.slice pa ps.length pc) M nx (c + d') (at_ L n) (at_ L 0).key false ps) (fun _ _ i _ => ps.length - (intOf i).toNat)
  case atStart => exact ⟨0, 0, L, Nat.zero_le _, by omega, rfl, rfl, HN.out, HP1.out.first hB _⟩
  case round =>
    clear h1 h2 h3 h4 h5 x1 x2 x4 x5 x7 y1 y2 k1 k2 f1 f2
    obtain ⟨j, m, M, hj, hm, rfl, rfl, hM, P⟩ := hrel
    obtain ⟨h1, h2, h3, h4, h5, _, k1, k2, _⟩ := P.hp.cells
    obtain ⟨x1, x2, x4, x5, y1, y2, x7⟩ := P.cells
    rw [hM] at h2
    obtain ⟨f1, f2, f3, f4, hgw⟩ := P.at m (by omega)
    have HMl := Lib.hid hM
    by_cases hjk : j < ps.length
    · obtain ⟨q, c', hv, hqs, hpc⟩ := P.pathAt (by omega)
      simp only [Value.slice.injEq, true_and] at hv
      obtain ⟨rfl, rfl⟩ := hv
      have p1 := hpc j hjk
      obtain ⟨b, hb'⟩ : ∃ b, ps[j] = b := ⟨_, rfl⟩
      rw [hb'] at p1
      have hbl : b < n := by rw [← hb']; exact HPS.out _ (List.getElem_mem _)
      have hbl1 : b < n + 1 := by omega
      obtain ⟨e1, e2, _, _, _⟩ := P.at b (by omega)
      have HPj := Lib.hid P
      clear hpc hb' P hM
      go_wp2_with fail
      refine wp_region_ext_tail 13 (by kernel_rfl) (by kernel_rfl) ?_
      simp only [List.take_succ_cons, List.take_zero, List.drop_succ_cons, List.drop_zero]
      repeat (go_big_quiet_step (fail))
      refine wpQuiet_nil ?_
      rintro _ ⟨y1, rfl⟩
      go_wp2_with fail
      go_roundw
      case rel => exact ⟨j + 1, b, M.set m (at_ M b), by omega, by omega, rfl, by go_num, by rw [List.length_set]; exact HMl.out, (HPj.out.later hB y1.h).put hB m (at_ M b)⟩
      case measure => simp [intOf]; omega
    · have HPj := Lib.hid P
      clear P hM
      go_wp2_with fail
      refine wp_region_ext_tail 7 (by kernel_rfl) (by kernel_rfl) ?_
      simp only [List.take_succ_cons, List.take_zero, List.drop_succ_cons, List.drop_zero]
      repeat (go_big_quiet_step (fail))
      refine wpQuiet_nil ?_
      rintro _ ⟨y0, rfl⟩
      have HP2 := Lib.hid ((HPj.out.later hB y0.h).put hB m (at_ L n))
      have hl2 : (M.set m (at_ L n)).length = n + 1 := by rw [List.length_set]; exact HMl.out
      go_upto_region 17 with fail
      obtain ⟨W2, hW2⟩ : ∃ W2, put2 y0.w g m (at_ L n) = W2 := ⟨_, rfl⟩
      rw [hW2] at HP2
      unfold put2 at hW2
      rw [hW2]
      clear hW2 h1 h2 h3 h4 h5 x1 x2 x4 x5 x7 y1 y2 k1 k2 f1 f2 f3 f4
      obtain ⟨h1, h2, h3, h4, h5, _, k1, k2, _⟩ := HP2.out.hp.cells
      obtain ⟨x1, x2, x4, x5, y1, y2, x7⟩ := HP2.out.cells
      obtain ⟨f1, f2, f3, f4, _⟩ := HP2.out.at n (by omega)
      have HP3 := Lib.hid (HP2.out.put hB n ⟨0, 0⟩)
      have hl3 := Lib.hid (show ((M.set m (at_ L n)).set n ⟨0, 0⟩).length = n + 1 by rw [List.length_set, hl2])
      rw [hl2] at h2
      clear hl2
      go_upto_region 18 with fail
      obtain ⟨W3, hW3⟩ : ∃ W3, put2 W2 g n ⟨0, 0⟩ = W3 := ⟨_, rfl⟩
      rw [hW3] at HP3
      unfold put2 at hW3
      rw [hW3]
      clear hW3 h1 h2 h3 h4 h5 x1 x2 x4 x5 x7 y1 y2 k1 k2 f1 f2 f3 f4
      obtain ⟨h1, h2, h3, h4, h5, _, k1, k2, _⟩ := HP3.out.hp.cells
      obtain ⟨x1, x2, x4, x5, y1, y2, x7⟩ := HP3.out.cells
      rw [hl3.out] at h2
      have hc1 : n + 1 ≤ cap := by have := HN.out; omega
      have hne1 : hb ≠ w.heap.size := by omega
      have hne2 : w.heap.size ≠ hb := by omega
      have hne3 : hb ≠ w.heap.size + 1 := by omega
      have hne4 : w.heap.size + 1 ≠ hb := by omega
      go_wp2_with fail
      refine leaves_cons (f := 42) (args := #[.pointer (some ⟨w.heap.size + 1 + 1, 0, none⟩), .pointer (some ⟨w.heap.size, 0, none⟩), .pointer (some ⟨w.heap.size + 1, 0, none⟩)]) (by simp) (by simp [go_sem]) ?_
      refine (popU_idle _ _ _ _).mono ?_
      rintro e u' w'' ⟨rfl, rfl, rfl⟩
      obtain ⟨s1, s2⟩ := HP3.out.shut hB n hl3.out (at_ L 0).key true
      exact ⟨.tuple #[.int .u16 (at_ L 0).key, .bool true], by simp [results, Try.results22, go_sem, *], (at_ L 0).key, .slice (some ⟨g, 0, none⟩) n cap, _, d, d', rfl, by rw [List.length_take, hl3.out]; omega, s1, HDd.out, hdd, s2⟩

end Go.Proofs.Ytekdjjfbkcgmhaa
