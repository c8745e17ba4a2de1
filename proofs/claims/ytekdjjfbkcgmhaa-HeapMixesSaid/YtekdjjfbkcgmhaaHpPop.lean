/-
  What is proved here: what (*Heap).Pop does (instance Item).
-/
import Derived.Test.YtekdjjfbkcgmhaaHpPush
namespace Go.Proofs.Ytekdjjfbkcgmhaa
open Go.RowKit Hp
set_option linter.unusedVariables false
set_option linter.unusedSimpArgs false

def RetPop (ls : Int → Int → Int → Int → Bool) (L : List It) (n : Nat) (nx : Int) (B hb : Nat) (fid : FuncId) (v : Value) (w : World) (e : Ending) (w' : World) : Prop :=
  e = .returned (.tuple #[.agg #[.int .i64 (at_ L 0).key, .int .i64 (at_ L 0).name], .bool true]) ∧ ∃ k v', Hp.Ends (bfr ls) L n k ∧ HpAt w' B hb fid v' (popK (bfr ls) L n k) nx ∧ Touch hb v.ownBlock w w' ∧ v'.ownBlock = v.ownBlock

/-- What lies in memory while Pop runs: the heap, the results, the item that is moved, the path. -/
structure Po (w wx : World) (B b0 hb g cap : Nat) (fid : FuncId) (p : Value) (M : List It) (nx : Int) (x : It) (fk fn : Int) (ok : Bool) (k : Nat) (xs : List Value) : Prop where
  hp : HpAt wx B hb fid (.slice (some ⟨g, 0, none⟩) M.length cap) M nx
  path : wx.ownsRow b0 3 1 p k xs
  low : g < w.heap.size
  hlow : hb < w.heap.size
  high : w.heap.size + 1 + 1 + 1 < b0
  k0 : wx.heap[w.heap.size]? = some (.cells #[.int .i64 fk, .int .i64 fn] 26 (0, 0))
  k1 : wx.heap[w.heap.size + 1]? = some (.cells #[.bool ok] 4 (0, 0))
  k3 : wx.heap[w.heap.size + 1 + 1 + 1]? = some (.cells #[.int .i64 x.key, .int .i64 x.name, .int .i64 x.ord] 67 (0, 0))
  tch : Touch hb (some g) w wx

section
variable {w wx W : World} {B b0 hb g cap : Nat} {fid : FuncId} {p : Value} {M : List It} {nx : Int} {x : It} {fk fn : Int} {ok : Bool} {k : Nat} {xs : List Value}
theorem own_path (h : wx.ownsRow b0 3 1 p k xs) (hk : ∀ q, b0 ≤ q → q < wx.heap.size → W.heap[q]? = wx.heap[q]?) : W.ownsRow b0 3 1 p k xs := by
  refine ⟨h.1, ?_⟩
  rcases h.2 with h | ⟨q, c, cr, rfl, q1, q2, q3⟩
  · exact .inl h
  · refine .inr ⟨q, c, cr, rfl, q1, ?_, q3⟩
    rw [hk q q1 (lt_of_block q2)]
    exact q2
theorem Po.later (P : Po w wx B b0 hb g cap fid p M nx x fk fn ok k xs) (h : Below wx.heap.size wx W) : Po w W B b0 hb g cap fid p M nx x fk fn ok k xs :=
  ⟨P.hp.ext ⟨W, h⟩, own_ext ⟨W, h⟩ P.path, P.low, P.hlow, P.high, ext_block ⟨W, h⟩ P.k0, ext_block ⟨W, h⟩ P.k1, ext_block ⟨W, h⟩ P.k3, P.tch.trans (Touch.of_below (hb := hb) (some g) h) (Same_or_new.refl _ _)⟩
theorem Po.withPath (P : Po w wx B b0 hb g cap fid p M nx x fk fn ok k xs) {p' : Value} {k' : Nat} {xs' : List Value} (h : wx.ownsRow b0 3 1 p' k' xs') : Po w wx B b0 hb g cap fid p' M nx x fk fn ok k' xs' :=
  ⟨P.hp, h, P.low, P.hlow, P.high, P.k0, P.k1, P.k3, P.tch⟩
theorem Po.start (h : HpAt w B hb fid (.slice (some ⟨g, 0, none⟩) M.length cap) M nx) (hg : g < w.heap.size) (x : It) :
    ∃ V, (((w.alloc (Obj.cells #[.int .i64 0, .int .i64 0] 26)).alloc (Obj.cells #[.bool false] 4)).alloc (Obj.cells #[.int .i64 0, .int .i64 0] 26)).alloc (Obj.cells #[.int .i64 x.key, .int .i64 x.name, .int .i64 x.ord] 67) = V ∧
      Po w V B V.heap.size hb g cap fid (.slice none 0 0) M nx x 0 0 false 0 [] := by
  have hb' : Below w.heap.size w ((((w.alloc (Obj.cells #[.int .i64 0, .int .i64 0] 26)).alloc (Obj.cells #[.bool false] 4)).alloc (Obj.cells #[.int .i64 0, .int .i64 0] 26)).alloc (Obj.cells #[.int .i64 x.key, .int .i64 x.name, .int .i64 x.ord] 67)) :=
    ((((Below.refl _ _).alloc (Nat.le_refl _) _).alloc (by simp) _).alloc (by simp; omega) _).alloc (by simp; omega) _
  refine ⟨_, rfl, (((h.alloc _).alloc _).alloc _).alloc _, ⟨rfl, .inl ⟨rfl, rfl⟩⟩, hg, lt_of_block h.blk, by simp, ?_, ?_, ?_, Touch.of_below _ hb'⟩
  · exact alloc_block _ (alloc_block _ (alloc_block _ (alloc_new _ _)))
  · have := alloc_new (w.alloc (Obj.cells #[.int .i64 0, .int .i64 0] 26)) (Obj.cells #[.bool false] 4)
    rw [World.size_alloc] at this
    exact alloc_block _ (alloc_block _ this)
  · have := alloc_new (((w.alloc (Obj.cells #[.int .i64 0, .int .i64 0] 26)).alloc (Obj.cells #[.bool false] 4)).alloc (Obj.cells #[.int .i64 0, .int .i64 0] 26)) (Obj.cells #[.int .i64 x.key, .int .i64 x.name, .int .i64 x.ord] 67)
    rw [World.size_alloc, World.size_alloc, World.size_alloc] at this
    exact this
theorem Po.put (P : Po w wx B b0 hb g cap fid p M nx x fk fn ok k xs) (i : Nat) (y : It) : Po w (put3 wx g i y) B b0 hb g cap fid p (M.set i y) nx x fk fn ok k xs := by
  obtain ⟨h1, h2⟩ := P.hp.put i y
  have hl := P.low
  have hh := P.high
  have keep : ∀ q, q < wx.heap.size → q ≠ g → (put3 wx g i y).heap[q]? = wx.heap[q]? := fun q hq hn => h2.block q hq (by simpa using hn)
  refine ⟨by rw [List.length_set]; exact h1, own_path P.path (fun q h1 h2 => keep q h2 (by omega)), P.low, P.hlow, P.high, ?_, ?_, ?_, P.tch.trans (Touch.of_grown h2) (Same_or_new.refl _ _)⟩
  · rw [keep _ (lt_of_block P.k0) (by omega)]; exact P.k0
  · rw [keep _ (lt_of_block P.k1) (by omega)]; exact P.k1
  · rw [keep _ (lt_of_block P.k3) (by omega)]; exact P.k3
theorem Po.at (P : Po w wx B b0 hb g cap fid p M nx x fk fn ok k xs) (i : Nat) (hi : i < M.length) :
    wx.cell? ⟨g, i * 3, none⟩ = some (.int .i64 (at_ M i).key) ∧ wx.cell? ⟨g, i * 3 + 1, none⟩ = some (.int .i64 (at_ M i).name) ∧ wx.cell? ⟨g, i * 3 + 2, none⟩ = some (.int .i64 (at_ M i).ord) ∧
    wx.frozen? ⟨g, i * 3, none⟩ = false ∧ wx.frozen? ⟨g, i * 3 + 1, none⟩ = false ∧ wx.frozen? ⟨g, i * 3 + 2, none⟩ = false ∧ g < wx.heap.size := by
  obtain ⟨g', cap', hv, _, hs, _, _, ⟨cur, hc, _⟩, hat⟩ := own_items P.hp.row (by omega)
  simp only [Value.slice.injEq, Option.some.injEq, Addr.mk.injEq, true_and, and_true] at hv
  obtain ⟨rfl, rfl⟩ := hv
  obtain ⟨a1, a2, a3⟩ := hat i hi
  refine ⟨a1, a2, a3, ?_, ?_, ?_, hs⟩ <;> simp [World.frozen?, hc]
theorem Po.pathAt (P : Po w wx B b0 hb g cap fid p M nx x fk fn ok k xs) (hk : 0 < k) :
    ∃ q c, p = .slice (some ⟨q, 0, none⟩) k c ∧ q < wx.heap.size ∧ ∀ j, j < k → wx.cell? ⟨q, j, none⟩ = xs[j]? := by
  rcases P.path.2 with ⟨_, h⟩ | ⟨q, c, cr, rfl, q1, q2, q3, q4, q5, q6⟩
  · omega
  · refine ⟨q, c, rfl, lt_of_block q2, fun j hj => ?_⟩
    have e := congrArg (fun l => l[j]?) q6
    simp only [List.getElem?_take, Nat.mul_one, hj, if_true] at e
    simpa [World.cell?, q2] using e
theorem Po.first (P : Po w wx B b0 hb g cap fid p M nx x fk fn ok k xs) (a b : Int) : Po w ((wx.setCell ⟨w.heap.size, 0, none⟩ (.int .i64 a)).setCell ⟨w.heap.size, 1, none⟩ (.int .i64 b)) B b0 hb g cap fid p M nx x a b ok k xs := by
  have hl := P.low
  have hh := P.high
  have hhl := P.hlow
  have keep : ∀ q, q ≠ w.heap.size → ((wx.setCell ⟨w.heap.size, 0, none⟩ (.int .i64 a)).setCell ⟨w.heap.size, 1, none⟩ (.int .i64 b)).heap[q]? = wx.heap[q]? := fun q hn => by
    rw [heap_setCell_other _ ⟨w.heap.size, 1, none⟩ q _ (fun e => hn (by simp [e])), heap_setCell_other _ ⟨w.heap.size, 0, none⟩ q _ (fun e => hn (by simp [e]))]
  refine ⟨⟨(keep hb (by omega)).trans P.hp.blk, ?_⟩, own_path P.path (fun q h1 h2 => keep q (by omega)), P.low, P.hlow, P.high, ?_, (keep _ (by omega)).trans P.k1, (keep _ (by omega)).trans P.k3, ?_⟩
  · exact ownsRow_setCell_other (ownsRow_setCell_other P.hp.row (by simp [Value.ownBlock]; omega) _) (by simp [Value.ownBlock]; omega) _
  · have h1 := heap_setCell_same wx w.heap.size 0 _ _ (.int .i64 a) P.k0
    have h2 := heap_setCell_same _ w.heap.size 1 _ _ (.int .i64 b) h1
    simpa using h2
  · have t := P.tch
    refine ⟨t.os, t.tape, t.output, by have := t.size; simp; omega, fun q hq h1 h2 => ?_⟩
    rw [keep q (by omega)]
    exact t.block q hq h1 h2
theorem Po.cells (P : Po w wx B b0 hb g cap fid p M nx x fk fn ok k xs) :
    wx.cell? ⟨w.heap.size, 0, none⟩ = some (.int .i64 fk) ∧ wx.cell? ⟨w.heap.size, 1, none⟩ = some (.int .i64 fn) ∧ wx.cell? ⟨w.heap.size + 1, 0, none⟩ = some (.bool ok) ∧ wx.cell? ⟨w.heap.size + 1 + 1 + 1, 0, none⟩ = some (.int .i64 x.key) ∧ wx.cell? ⟨w.heap.size + 1 + 1 + 1, 1, none⟩ = some (.int .i64 x.name) ∧ wx.cell? ⟨w.heap.size + 1 + 1 + 1, 2, none⟩ = some (.int .i64 x.ord) ∧
    wx.frozen? ⟨w.heap.size, 0, none⟩ = false ∧ wx.frozen? ⟨w.heap.size, 1, none⟩ = false ∧ wx.frozen? ⟨w.heap.size + 1, 0, none⟩ = false ∧ w.heap.size + 1 + 1 + 1 < wx.heap.size := by
  refine ⟨?_, ?_, ?_, ?_, ?_, ?_, ?_, ?_, ?_, lt_of_block P.k3⟩ <;> simp [World.cell?, World.frozen?, P.k0, P.k1, P.k3]
theorem flat_take (L : List It) (n : Nat) : flat (L.take n) = (flat L).take (n * 3) := by
  induction L generalizing n with
  | nil => simp [flat]
  | cons a L ih =>
    cases n with
    | zero => simp [flat]
    | succ n => rw [List.take_succ_cons, flat_cons, ih, flat_cons, show (n + 1) * 3 = n * 3 + 3 by omega]; rfl
theorem take_set_self (l : List It) (n : Nat) (z : It) : (l.set n z).take n = l.take n := by
  apply List.ext_getElem?
  intro i
  by_cases h : i < n
  · simp [h, List.getElem?_set, show ¬ n = i by omega]
  · simp [List.getElem?_take, h]
theorem Po.shut (P : Po w wx B b0 hb g cap fid p M nx x fk fn ok k xs) (n : Nat) (hn : M.length = n + 1) (a b : Int) (c : Bool) :
    HpAt ((((wx.setCell ⟨hb, 1, none⟩ (.slice (some ⟨g, 0, none⟩) n cap)).setCell ⟨w.heap.size, 0, none⟩ (.int .i64 a)).setCell ⟨w.heap.size, 1, none⟩ (.int .i64 b)).setCell ⟨w.heap.size + 1, 0, none⟩ (.bool c)) B hb fid (.slice (some ⟨g, 0, none⟩) n cap) (M.take n) nx ∧
    Touch hb (some g) w ((((wx.setCell ⟨hb, 1, none⟩ (.slice (some ⟨g, 0, none⟩) n cap)).setCell ⟨w.heap.size, 0, none⟩ (.int .i64 a)).setCell ⟨w.heap.size, 1, none⟩ (.int .i64 b)).setCell ⟨w.heap.size + 1, 0, none⟩ (.bool c)) := by
  have hl := P.low
  have hh := P.high
  have hhl := P.hlow
  have hne := P.hp.ne
  simp only [Value.ownBlock, ne_eq, Option.some.injEq] at hne
  obtain ⟨W, hW⟩ : ∃ W, (((wx.setCell ⟨hb, 1, none⟩ (.slice (some ⟨g, 0, none⟩) n cap)).setCell ⟨w.heap.size, 0, none⟩ (.int .i64 a)).setCell ⟨w.heap.size, 1, none⟩ (.int .i64 b)).setCell ⟨w.heap.size + 1, 0, none⟩ (.bool c) = W := ⟨_, rfl⟩
  have keep : ∀ q, q ≠ hb → q < w.heap.size → W.heap[q]? = wx.heap[q]? := fun q h1 h2 => by
    rw [← hW, heap_setCell_other _ ⟨w.heap.size + 1, 0, none⟩ q _ (by simp; omega), heap_setCell_other _ ⟨w.heap.size, 1, none⟩ q _ (by simp; omega), heap_setCell_other _ ⟨w.heap.size, 0, none⟩ q _ (by simp; omega), heap_setCell_other _ ⟨hb, 1, none⟩ q _ (by simp; omega)]
  have kb : W.heap[hb]? = some (.cells #[.func (.func fid) #[] #[], .slice (some ⟨g, 0, none⟩) n cap, .int .i64 nx] 65 (0, 0)) := by
    rw [← hW, heap_setCell_other _ ⟨w.heap.size + 1, 0, none⟩ hb _ (by simp; omega), heap_setCell_other _ ⟨w.heap.size, 1, none⟩ hb _ (by simp; omega), heap_setCell_other _ ⟨w.heap.size, 0, none⟩ hb _ (by simp; omega)]
    have := heap_setCell_same wx hb 1 _ _ (.slice (some ⟨g, 0, none⟩) n cap) P.hp.blk
    simpa using this
  have hsz : wx.heap.size ≤ W.heap.size := by rw [← hW]; simp
  have hos : W.os = wx.os ∧ W.tape = wx.tape ∧ W.output = wx.output := by rw [← hW]; exact ⟨rfl, rfl, rfl⟩
  rw [hW]
  obtain ⟨g', cap', hv, q1, _, q3, q4, ⟨cur, hc, q5, q6⟩, _⟩ := own_items P.hp.row (by omega)
  simp only [Value.slice.injEq, Option.some.injEq, Addr.mk.injEq, true_and, and_true] at hv
  obtain ⟨rfl, rfl⟩ := hv
  have hlen : (M.take n).length = n := by simp; omega
  refine ⟨⟨kb, ?_⟩, ?_⟩
  · rw [hlen]
    refine ⟨by rw [flat_length, hlen], .inr ⟨g, cap, cur, rfl, q1, ?_, by omega, q4, q5, ?_⟩⟩
    · rw [keep g (by omega) hl]; exact hc
    · rw [flat_take, ← q6, List.take_take]
      congr 1
      omega
  · have t := P.tch
    refine ⟨hos.1.trans t.os, hos.2.1.trans t.tape, hos.2.2.trans t.output, by have := t.size; omega, fun q hq h1 h2 => ?_⟩
    rw [keep q h1 hq]
    exact t.block q hq h1 h2
end

set_option maxRecDepth 100000 in
set_option maxHeartbeats 4000000 in
theorem pop_any (hb : Nat) (fid : FuncId) (ls : Int → Int → Int → Int → Bool) (HL : Less fid ls) (L : List It) (n : Nat) (hn : L.length = n + 1) (hlen : n ≤ 1000000) (B : Nat) (v : Value) (nx : Int) (w : World) (H : HpAt w B hb fid v L nx) :
    Calls Try.prog 24 #[.pointer (some ⟨hb, 0, none⟩)] w (RetPop ls L n nx B hb fid v w) := by
  have hmf : ∀ (fn : Fn) (first cap : Array Value) (w : World), (Instr.makeFunc fn first cap).run Try.prog w = .ok (.func fn first cap) w := fun _ _ _ _ => rfl
  obtain ⟨h1, h2, h3, h4, h5, h6⟩ := H.cells
  have HH := Lib.hid H
  obtain ⟨g, cap, hv, hgB, hgs, hcap, hmax, _, hcs⟩ := own_items H.row (by omega)
  subst hv
  obtain ⟨e1, e2, e3⟩ := hcs n (by omega)
  obtain ⟨f1, f2, _⟩ := hcs 0 (by omega)
  rw [Nat.zero_mul] at f1 f2
  rw [Nat.zero_add] at f2
  rw [hn] at h2
  clear H hcs
  have HN := Lib.hid hn
  clear hn
  have s1 : hb < w.heap.size + 1 := by omega
  have s2 : hb < w.heap.size + 1 + 1 := by omega
  have s3 : hb < w.heap.size + 1 + 1 + 1 := by omega
  have t1 : g < w.heap.size + 1 := by omega
  have t2 : g < w.heap.size + 1 + 1 := by omega
  have t3 : g < w.heap.size + 1 + 1 + 1 := by omega
  go_enter_defers Try.func24, Try.ntmps24
  go_upto_region 7 with (go_at_call 36; refine (usable_yes hb fid _ (by simp [go_sem, *])).mono ?_; rintro e _ ⟨rfl, rfl⟩)
  obtain ⟨V, hV, P0⟩ := Po.start HH.out hgs (at_ L n)
  rw [hV]
  clear hV h1 h2 h3 h4 h5 e1 e2 e3 f1 f2 s1 s2 s3 t1 t2 t3
  obtain ⟨h1, h2, h3, h4, h5, _⟩ := P0.hp.cells
  obtain ⟨x1, x2, x3, x4, x5, x6, y1, y2, y3, x7⟩ := P0.cells
  have HP0 := Lib.hid P0
  clear P0
  go_upto_region 8 with (go_at_call 45; refine (descend_any hb fid ls HL L n HN.out hlen B _ nx _ HP0.out.hp).mono ?_; rintro e W ⟨k, p, rfl, hE, hown, hbel⟩)
  have P1 := (HP0.out.later hbel).withPath hown
  clear h1 h2 h3 h4 h5 x1 x2 x3 x4 x5 x6 x7 y1 y2 y3
  obtain ⟨h1, h2, h3, h4, h5, _⟩ := P1.hp.cells
  obtain ⟨x1, x2, x3, x4, x5, x6, y1, y2, y3, x7⟩ := P1.cells
  obtain ⟨f1, f2, _⟩ := P1.at 0 (by rw [HN.out]; omega)
  rw [Nat.zero_mul] at f1 f2
  rw [Nat.zero_add] at f2
  rw [HN.out] at h2
  obtain ⟨pa, pc, hpv⟩ := own_len P1.path
  subst hpv
  have hkn : k ≤ n := by
    by_cases h0 : n = 0
    · subst h0
      cases k with
      | zero => exact Nat.le_refl _
      | succ k => have := (hE.1 0 (by omega)).1; omega
    · exact sink_le hE.1 (by omega)
  have hdn : ∀ j, j ≤ k → des (bfr ls) L n j < n + 1 := by
    intro j hj
    cases j with
    | zero => simp [des]
    | succ j => have := (hE.1 j (by omega)).1; omega
  have HE := Lib.hid hE
  have HDN := Lib.hid hdn
  have HP1 := Lib.hid P1
  clear P1 hE hdn hown HP0
  go_wp2_with fail
  go_loopw [8, 10, 50] (fun a b i wr => ∃ j : Nat, j ≤ k ∧ a = .int .i64 (des (bfr ls) L n j) ∧ i = .int .i64 (j : Int) ∧ Po w wr B V.heap.size hb g cap fid (.slice pa k pc) (shiftDown (bfr ls) L n j) nx (at_ L n) (at_ L 0).key (at_ L 0).name false k (pathV (bfr ls) L n k)) (fun _ _ i _ => k - (intOf i).toNat)
  case atStart => exact ⟨0, Nat.zero_le _, rfl, rfl, HP1.out.first _ _⟩
  case round =>
    clear h1 h2 h3 h4 h5 x1 x2 x3 x4 x5 x6 x7 y1 y2 y3 f1 f2
    obtain ⟨j, hj, rfl, rfl, P⟩ := hrel
    obtain ⟨h1, h2, h3, h4, h5, _⟩ := P.hp.cells
    obtain ⟨x1, x2, x3, x4, x5, x6, y1, y2, y3, x7⟩ := P.cells
    rw [shiftDown_length, HN.out] at h2
    have hda := HDN.out j hj
    obtain ⟨f1, f2, f3, f4, f5, f6, hgw⟩ := P.at (des (bfr ls) L n j) (by rw [shiftDown_length, HN.out]; omega)
    obtain ⟨a, ha⟩ : ∃ a, des (bfr ls) L n j = a := ⟨_, rfl⟩
    rw [ha] at f1 f2 f3 f4 f5 f6 hda
    have HA := Lib.hid ha
    rw [ha]
    clear ha
    by_cases hjk : j < k
    · obtain ⟨q, c', hv, hqs, hpc⟩ := P.pathAt (by omega)
      simp only [Value.slice.injEq, true_and] at hv
      obtain ⟨rfl, rfl⟩ := hv
      have p1 := hpc j hjk
      have hpe : (pathV (bfr ls) L n k)[j]? = some (.int .i64 (des (bfr ls) L n (j + 1))) := by simp [pathV, hjk]
      rw [hpe] at p1
      clear hpc hpe
      have hdb := HDN.out (j + 1) (by omega)
      obtain ⟨e1, e2, e3, _, _, _, _⟩ := P.at (des (bfr ls) L n (j + 1)) (by rw [shiftDown_length, HN.out]; omega)
      rw [shiftDown_at j _ (fun i hi => by have := des_strict (lt := bfr ls) L n (show i < j + 1 by omega); omega)] at e1 e2 e3
      have HPj := Lib.hid P
      clear P
      obtain ⟨b, hb'⟩ : ∃ b, des (bfr ls) L n (j + 1) = b := ⟨_, rfl⟩
      rw [hb'] at p1 e1 e2 e3 hdb
      have HB := Lib.hid hb'
      clear hb'
      go_wp2_with fail
      refine wp_region_ext_tail 13 (by kernel_rfl) (by kernel_rfl) ?_
      simp only [List.take_succ_cons, List.take_zero, List.drop_succ_cons, List.drop_zero]
      repeat (go_big_quiet_step (fail))
      refine wpQuiet_nil ?_
      rintro _ ⟨x1, rfl⟩
      go_wp2_with fail
      go_roundw
      case rel =>
        have hsu : shiftDown (bfr ls) L n (j + 1) = (shiftDown (bfr ls) L n j).set a (at_ L b) := by rw [← HA.out, ← HB.out]; rfl
        exact ⟨j + 1, by omega, by rw [HB.out], by go_num, by rw [hsu]; exact (HPj.out.later x1.h).put a (at_ L b)⟩
      case measure => simp [intOf]; omega
    · obtain rfl : k = j := by omega
      have HPj := Lib.hid P
      clear P
      go_wp2_with fail
      refine wp_region_ext_tail 7 (by kernel_rfl) (by kernel_rfl) ?_
      simp only [List.take_succ_cons, List.take_zero, List.drop_succ_cons, List.drop_zero]
      repeat (go_big_quiet_step (fail))
      refine wpQuiet_nil ?_
      rintro _ ⟨x0, rfl⟩
      have HP2 := Lib.hid ((HPj.out.later x0.h).put a (at_ L n))
      go_upto_region 17 with fail
      obtain ⟨W2, hW2⟩ : ∃ W2, put3 x0.w g a (at_ L n) = W2 := ⟨_, rfl⟩
      rw [hW2] at HP2
      unfold put3 at hW2
      rw [hW2]
      have hl2 : ((shiftDown (bfr ls) L n k).set a (at_ L n)).length = n + 1 := by rw [List.length_set, shiftDown_length, HN.out]
      clear hW2 h1 h2 h3 h4 h5 x1 x2 x3 x4 x5 x6 x7 y1 y2 y3 f1 f2 f3 f4 f5 f6
      obtain ⟨h1, h2, h3, h4, h5, _⟩ := HP2.out.hp.cells
      obtain ⟨x1, x2, x3, x4, x5, x6, y1, y2, y3, x7⟩ := HP2.out.cells
      obtain ⟨f1, f2, f3, f4, f5, f6, _⟩ := HP2.out.at n (by omega)
      have HP3 := Lib.hid (HP2.out.put n ⟨0, 0, 0⟩)
      have hl3 := Lib.hid (show (((shiftDown (bfr ls) L n k).set a (at_ L n)).set n ⟨0, 0, 0⟩).length = n + 1 by rw [List.length_set, hl2])
      rw [hl2] at h2
      clear hl2
      go_upto_region 18 with fail
      obtain ⟨W3, hW3⟩ : ∃ W3, put3 W2 g n ⟨0, 0, 0⟩ = W3 := ⟨_, rfl⟩
      rw [hW3] at HP3
      unfold put3 at hW3
      rw [hW3]
      clear hW3 h1 h2 h3 h4 h5 x1 x2 x3 x4 x5 x6 x7 y1 y2 y3 f1 f2 f3 f4 f5 f6
      obtain ⟨h1, h2, h3, h4, h5, _⟩ := HP3.out.hp.cells
      obtain ⟨x1, x2, x3, x4, x5, x6, y1, y2, y3, x7⟩ := HP3.out.cells
      rw [hl3.out] at h2
      have hc1 : n + 1 ≤ cap := by have := HN.out; omega
      have hne1 : hb ≠ w.heap.size := by omega
      have hne2 : w.heap.size ≠ hb := by omega
      have hne3 : hb ≠ w.heap.size + 1 := by omega
      have hne4 : w.heap.size + 1 ≠ hb := by omega
      go_wp2_with fail
      refine leaves_cons (f := 44) (args := #[.pointer (some ⟨w.heap.size + 1 + 1, 0, none⟩), .pointer (some ⟨w.heap.size, 0, none⟩), .pointer (some ⟨w.heap.size + 1, 0, none⟩)]) (by simp) (by simp [go_sem]) ?_
      refine (pop_idle _ _ _ _).mono ?_
      rintro e u' w'' ⟨rfl, rfl, rfl⟩
      obtain ⟨s1, s2⟩ := HP3.out.shut n hl3.out (at_ L 0).key (at_ L 0).name true
      refine ⟨.tuple #[.agg #[.int .i64 (at_ L 0).key, .int .i64 (at_ L 0).name], .bool true], by simp [results, Try.results24, go_sem, *], rfl, k, .slice (some ⟨g, 0, none⟩) n cap, HE.out, ?_, s2, rfl⟩
      have hpk : popK (bfr ls) L n k = (((shiftDown (bfr ls) L n k).set a (at_ L n)).set n ⟨0, 0, 0⟩).take n := by
        unfold popK
        rw [HA.out, take_set_self]
      rw [hpk]
      exact s1

theorem HpAt.nilRow {w : World} {B hb : Nat} {fid : FuncId} {v : Value} {nx : Int} (h : HpAt w B hb fid v [] nx) : ∃ av cap, v = .slice av 0 cap := own_len h.row
set_option maxRecDepth 100000 in
set_option maxHeartbeats 400000 in
theorem pop_none (hb : Nat) (fid : FuncId) (B : Nat) (v : Value) (nx : Int) (w : World) (H : HpAt w B hb fid v [] nx) :
    Calls Try.prog 24 #[.pointer (some ⟨hb, 0, none⟩)] w fun e w' => e = .returned (.tuple #[.agg #[.int .i64 0, .int .i64 0], .bool false]) ∧ Below w.heap.size w w' := by
  obtain ⟨h1, h2, h3, h4, h5, h6⟩ := H.cells
  obtain ⟨av, cap, hv⟩ := H.nilRow
  subst hv
  clear H
  have s1 : hb < w.heap.size + 1 := by omega
  have s2 : hb < w.heap.size + 1 + 1 := by omega
  have s3 : hb < w.heap.size + 1 + 1 + 1 := by omega
  go_enter Try.func24, Try.ntmps24
  go_wp2_with (go_at_call 36; refine (usable_yes hb fid _ (by simp [go_sem, *])).mono ?_; rintro e _ ⟨rfl, rfl⟩)
  refine bodyPost_ret (v := .tuple #[.agg #[.int .i64 0, .int .i64 0], .bool false]) (by simp [results, Try.results24, go_sem]) rfl ⟨rfl, ?_⟩
  (repeat (first | exact Below.refl _ _ | refine Below.setCell ?_ ?_ _ | refine Below.alloc ?_ ?_ _)) <;> (first | (simp; done) | (simp; omega) | omega)

end Go.Proofs.Ytekdjjfbkcgmhaa
