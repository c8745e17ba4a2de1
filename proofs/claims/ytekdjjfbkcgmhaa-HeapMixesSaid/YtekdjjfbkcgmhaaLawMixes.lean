/-
  What is proved here: the law HeapMixes returns true for every input.
-/
import Derived.Test.YtekdjjfbkcgmhaaHmMap
import Derived.Test.YtekdjjfbkcgmhaaLawPlays
namespace Go.Proofs.Ytekdjjfbkcgmhaa
open Go.ChangeShapes Go.WideShapes Go.ChangeAt Go.RowKit Hp Go.ChangeMaps
set_option linter.unusedVariables false
set_option linter.unusedSimpArgs false

/-- How many of each are in the heap. -/
def cntf (S : List It) : Int × Int → Int := fun k => ((S.map It.kn).count k : Int)
theorem cntf_le (S : List It) (k : Int × Int) : 0 ≤ cntf S k ∧ cntf S k ≤ S.length := by
  unfold cntf
  have := List.count_le_length (a := k) (l := S.map It.kn)
  rw [List.length_map] at this
  omega
theorem cntf_perm {S T : List It} (h : S.Perm T) : cntf S = cntf T := by
  funext k
  unfold cntf
  rw [(h.map It.kn).count_eq]
theorem cntf_cons (s : It) (S : List It) : upd (cntf S) s.kn (cntf S s.kn + 1) = cntf (s :: S) := by
  funext k
  unfold upd cntf
  rw [List.map_cons, List.count_cons]
  by_cases h : k = s.kn
  · subst h; simp
  · rw [if_neg h]
    have : (s.kn == k) = false := by simp; exact fun e => h e.symm
    rw [this]; simp
theorem cntf_tail (s : It) (S : List It) : upd (cntf (s :: S)) s.kn (cntf (s :: S) s.kn - 1) = cntf S := by
  funext k
  unfold upd cntf
  rw [List.map_cons]
  by_cases h : k = s.kn
  · subst h; simp
  · rw [if_neg h, List.count_cons]
    have : (s.kn == k) = false := by simp; exact fun e => h e.symm
    rw [this]; simp
theorem cntf_ins (f : Int → Int) (x : It) (S : List It) : upd (cntf S) x.kn (cntf S x.kn + 1) = cntf (ins f x S) := by
  rw [cntf_cons, cntf_perm (ins_perm f x S)]

theorem Mp.later {w w' : World} {b n : Nat} {f : Int × Int → Int} (h : Mp w b f n) (k : Below w.heap.size w w') : Mp w' b f n := by
  obtain ⟨es, c, hb, hq⟩ := h
  exact ⟨es, c, (k.block b (lt_of_block hb)).trans hb, hq⟩
theorem Mp.touch {w w' : World} {b n hb : Nat} {ov : Option Nat} {f : Int × Int → Int} (h : Mp w b f n) (t : Touch hb ov w w') (h1 : b ≠ hb) (h2 : some b ≠ ov) : Mp w' b f n := by
  obtain ⟨es, c, hb', hq⟩ := h
  exact ⟨es, c, (t.block b (lt_of_block hb') h1 h2).trans hb', hq⟩
theorem Mp.grown {w w' : World} {b n : Nat} {row : Option Nat} {f : Int × Int → Int} (h : Mp w b f n) (t : w.grownBy w' row) (h2 : some b ≠ row) : Mp w' b f n := by
  obtain ⟨es, c, hb', hq⟩ := h
  exact ⟨es, c, (t.block b (lt_of_block hb') h2).trans hb', hq⟩
theorem Mp.lt {w : World} {b n : Nat} {f : Int × Int → Int} (h : Mp w b f n) : b < w.heap.size := by
  obtain ⟨es, c, hb, _⟩ := h
  exact lt_of_block hb
theorem Mp.ne {w : World} {b n B hb : Nat} {f : Int × Int → Int} {fid : FuncId} {g : Int → Int} {S : List It} {nx : Int} {ov : Option Nat} (h : Mp w b f n) (H : HpS w B hb fid g S nx ov) : b ≠ hb ∧ some b ≠ ov := by
  obtain ⟨es, c, hb', _⟩ := h
  obtain ⟨v, L, hp, rfl, _⟩ := H.ex
  refine ⟨fun e => ?_, fun e => ?_⟩
  · subst e
    have := hb'.symm.trans hp.blk
    simp at this
  · rcases hp.row.2 with ⟨rfl, _⟩ | ⟨q, cap, cur, rfl, _, hq, _⟩
    · simp [Value.ownBlock] at e
    · simp only [Value.ownBlock, Option.some.injEq] at e
      subst e
      have := hb'.symm.trans hq
      simp at this
theorem Mp.row {w : World} {b n B m size : Nat} {f : Int × Int → Int} {e : TypeId} {v : Value} {xs : List Value} (h : Mp w b f n) (ho : w.ownsRow B e size v m xs) : some b ≠ v.ownBlock := by
  obtain ⟨es, c, hb', _⟩ := h
  intro e
  rcases ho.2 with ⟨rfl, _⟩ | ⟨q, cap, cur, rfl, _, hq, _⟩
  · simp [Value.ownBlock] at e
  · simp only [Value.ownBlock, Option.some.injEq] at e
    subst e
    have := hb'.symm.trans hq
    simp at this
theorem setBlock_grown (w : World) (b : Nat) (o o' : Obj) : w.grownBy (setBlock (setBlock w b o) b o') (some b) := by
  refine ⟨rfl, rfl, rfl, by simp [setBlock], fun k hk hn => ?_⟩
  have : k ≠ b := fun e => hn (by rw [e])
  simp [setBlock, Array.getElem?_setIfInBounds, this.symm, fun e : b = k => this e.symm]
theorem setBlock_at (w : World) (b : Nat) (o : Obj) (h : b < w.heap.size) : (setBlock w b o).heap[b]? = some o := by
  simp [setBlock, Array.getElem?_setIfInBounds, h]
/-- The two stores of 'm[k] op= ..', told for the walk. -/
theorem Mp.put {w : World} {b n : Nat} {f : Int × Int → Int} (h : Mp w b f n) (k : Int × Int) (hk : wfk k) (v : Int) :
    ∃ (v0 : Value) (st : Int) (o o' : Obj), (Instr.mapEntry 47 (.map (some b)) (kvv k)).run Try.prog w = .ok (.tuple #[v0, .int .i64 st]) (setBlock w b o) ∧
      (Instr.entryStore 47 (.map (some b)) (.int .i64 st) (.int .i64 v)).run Try.prog (setBlock w b o) = .ok () (setBlock (setBlock w b o) b o') ∧ Mp (setBlock (setBlock w b o) b o') b (upd f k v) (n + 1) ∧ (Instr.lookup 47 (.map (some b)) (kvv k) false).run Try.prog (setBlock w b o) = .ok (.int .i64 (f k)) (setBlock w b o) := by
  obtain ⟨es, c, hb, hq⟩ := h
  obtain ⟨v0, st, es1, c1, es', c', h1, h2, h3, h4⟩ := hq.put hb k hk v
  have hl := lt_of_block hb
  exact ⟨v0, st, _, _, h1, h2 _ (setBlock_at w b _ hl), ⟨es', c', setBlock_at _ b _ (by simp [setBlock]; exact hl), h3⟩, h4.look (setBlock_at w b _ hl) k hk⟩
theorem Mp.look {w : World} {b n : Nat} {f : Int × Int → Int} (h : Mp w b f n) (k : Int × Int) (hk : wfk k) :
    (Instr.lookup 47 (.map (some b)) (kvv k) false).run Try.prog w = .ok (.int .i64 (f k)) w := by
  obtain ⟨es, c, hb, hq⟩ := h
  exact hq.look hb k hk

/-- What holds between two steps: the heap and the counts. -/
structure Mx (W wr : World) (mb : Nat) (S : List It) (nx : Int) (ov : Option Nat) : Prop where
  hp : HpS wr W.heap.size W.heap.size 23 id S nx ov
  mp : ∃ n, Mp wr mb (cntf S) n
  low : W.heap.size ≤ mb
  wf : ∀ y ∈ S, wfk y.kn
  ords : ∀ y ∈ S, y.ord < nx
  srt : Srt id S
  bel : Below W.heap.size W wr
theorem Mx.later {W wr w' : World} {mb : Nat} {S : List It} {nx : Int} {ov : Option Nat} (h : Mx W wr mb S nx ov) (k : Below wr.heap.size wr w') : Mx W w' mb S nx ov := by
  obtain ⟨n, hm⟩ := h.mp
  exact ⟨h.hp.later k, ⟨n, hm.later k⟩, h.low, h.wf, h.ords, h.srt, h.bel.trans (k.mono h.bel.size)⟩
theorem wf_in (a : Int) : (Lit.int .i64 a).wf = true ∨ True := .inr trivial
/-- After a change of the heap the counts lag behind: told by the heap's list S and the counts' list T. -/
structure My (W wr : World) (mb : Nat) (S T : List It) (nx : Int) (ov : Option Nat) : Prop where
  hp : HpS wr W.heap.size W.heap.size 23 id S nx ov
  mp : ∃ n, Mp wr mb (cntf T) n
  low : W.heap.size ≤ mb
  wf : ∀ y ∈ S, wfk y.kn
  ords : ∀ y ∈ S, y.ord < nx
  srt : Srt id S
  bel : Below W.heap.size W wr
theorem My.later {W wr w' : World} {mb : Nat} {S T : List It} {nx : Int} {ov : Option Nat} (h : My W wr mb S T nx ov) (k : Below wr.heap.size wr w') : My W w' mb S T nx ov := by
  obtain ⟨n, hm⟩ := h.mp
  exact ⟨h.hp.later k, ⟨n, hm.later k⟩, h.low, h.wf, h.ords, h.srt, h.bel.trans (k.mono h.bel.size)⟩
theorem Mx.push {W wr w' : World} {mb : Nat} {S : List It} {x : It} {ov ov' : Option Nat} (h : Mx W wr mb S x.ord ov) (hx : wfk x.kn) (t : Touch W.heap.size ov wr w') (hS : HpS w' W.heap.size W.heap.size 23 id (ins id x S) (x.ord + 1) ov') : My W w' mb (ins id x S) S (x.ord + 1) ov' := by
  obtain ⟨n, hm⟩ := h.mp
  obtain ⟨n1, n2⟩ := hm.ne h.hp
  refine ⟨hS, ⟨n, hm.touch t n1 n2⟩, h.low, fun y hy => ?_, fun y hy => ?_, ins_srt h.srt h.ords, h.bel.trans (t.below (Nat.le_refl _) h.bel.size h.hp.ov_ge)⟩
  · rcases ins_mem.1 hy with rfl | hy
    · exact hx
    · exact h.wf y hy
  · rcases ins_mem.1 hy with rfl | hy
    · omega
    · have := h.ords y hy; omega
theorem Mx.pop {W wr w' : World} {mb : Nat} {S : List It} {s : It} {nx : Int} {ov : Option Nat} (h : Mx W wr mb (s :: S) nx ov) (t : Touch W.heap.size ov wr w') (hS : HpS w' W.heap.size W.heap.size 23 id S nx ov) : My W w' mb S (s :: S) nx ov := by
  obtain ⟨n, hm⟩ := h.mp
  obtain ⟨n1, n2⟩ := hm.ne h.hp
  exact ⟨hS, ⟨n, hm.touch t n1 n2⟩, h.low, fun y hy => h.wf y (List.mem_cons_of_mem _ hy), fun y hy => h.ords y (List.mem_cons_of_mem _ hy), (List.pairwise_cons.1 h.srt).2, h.bel.trans (t.below (Nat.le_refl _) h.bel.size h.hp.ov_ge)⟩
/-- The counts catch up. -/
theorem My.put {W wr : World} {mb : Nat} {S T : List It} {nx : Int} {ov : Option Nat} (h : My W wr mb S T nx ov) (k : Int × Int) (hk : wfk k) (v : Int) (hv : upd (cntf T) k v = cntf S) :
    ∃ (v0 : Value) (st : Int) (o o' : Obj), (Instr.mapEntry 47 (.map (some mb)) (kvv k)).run Try.prog wr = .ok (.tuple #[v0, .int .i64 st]) (setBlock wr mb o) ∧
      (Instr.entryStore 47 (.map (some mb)) (.int .i64 st) (.int .i64 v)).run Try.prog (setBlock wr mb o) = .ok () (setBlock (setBlock wr mb o) mb o') ∧ Mx W (setBlock (setBlock wr mb o) mb o') mb S nx ov ∧ wr.grownBy (setBlock (setBlock wr mb o) mb o') (some mb) ∧ (Instr.lookup 47 (.map (some mb)) (kvv k) false).run Try.prog (setBlock wr mb o) = .ok (.int .i64 (cntf T k)) (setBlock wr mb o) := by
  obtain ⟨n, hm⟩ := h.mp
  obtain ⟨n1, n2⟩ := hm.ne h.hp
  obtain ⟨v0, st, o, o', h1, h2, h3, h4⟩ := hm.put k hk v
  have g := setBlock_grown wr mb o o'
  rw [hv] at h3
  exact ⟨v0, st, o, o', h1, h2, ⟨h.hp.grown g (by simpa using n1) (.inr n2), ⟨_, h3⟩, h.low, h.wf, h.ords, h.srt, h.bel.grown g h.bel.size (fun k hk => by have := h.low; simp at hk; omega)⟩, g, h4⟩
theorem My.look {W wr : World} {mb : Nat} {S T : List It} {nx : Int} {ov : Option Nat} (h : My W wr mb S T nx ov) (k : Int × Int) (hk : wfk k) : (Instr.lookup 47 (.map (some mb)) (kvv k) false).run Try.prog wr = .ok (.int .i64 (cntf T k)) wr := by
  obtain ⟨n, hm⟩ := h.mp
  exact hm.look k hk
theorem Mx.look {W wr : World} {mb : Nat} {S : List It} {nx : Int} {ov : Option Nat} (h : Mx W wr mb S nx ov) (k : Int × Int) (hk : wfk k) : (Instr.lookup 47 (.map (some mb)) (kvv k) false).run Try.prog wr = .ok (.int .i64 (cntf S k)) wr := by
  obtain ⟨n, hm⟩ := h.mp
  exact hm.look k hk
theorem Mx.start {W W1 : World} (hS : HpS W1 W.heap.size W.heap.size 23 id [] 0 none) (hB : Below W.heap.size W W1) : Mx W (W1.alloc (Obj.map #[] 0)) W1.heap.size [] 0 none :=
  ⟨hS.alloc _, ⟨0, #[], 0, alloc_new _ _, ⟨MapKept.stamped_empty 0, Nat.le_refl _, (fun x hx => by simp at hx), fun k _ _ => by simp [cntf]⟩⟩, hB.size, (fun y hy => by cases hy), (fun y hy => by cases hy), List.Pairwise.nil, hB.alloc hB.size _⟩

/-- It returns true; the world is, but for what it has drawn, one in which all that was there is as it was. -/
def RetAlike (w : World) (e : Ending) (w' : World) : Prop := e = .returned (.bool true) ∧ ∃ w'', Below w.heap.size w w'' ∧ w'.Alike w''
set_option maxRecDepth 100000 in
set_option maxHeartbeats 4000000 in
theorem mixes_in (v : Value) (l : List (Int × Int)) (hlen : l.length ≤ 200) (hwf : ∀ x ∈ l, wfk x) (u : Value) (ps : List Int) (hpl : ps.length ≤ 200) (hpw : ∀ p ∈ ps, 0 ≤ p ∧ p ≤ 255) (w : World) (H : Reads2 w w.heap.size v l) (HQ : ReadsAs w w.heap.size u ps.length 1 (fun i cs => cs = [.int .u8 (ps.getD i 0)])) :
    Calls Try.prog 6 #[v, u] w (RetAlike w) := by
  obtain ⟨A, cap, rfl, hA⟩ := H
  obtain ⟨A2, cap2, rfl, _, _, hA2⟩ := HQ
  have HA := Lib.hid hA
  have HA2 := Lib.hid hA2
  have HWF := Lib.hid hwf
  have HPW := Lib.hid hpw
  have hmm := @run_makeMap Try.prog
  clear hA hA2 hwf hpw
  go_enter Try.func6, Try.ntmps6
  go_upto_region 7 with (first | (go_at_call 11; refine (awake_any _).mono ?_; rintro e W ⟨rfl, hW⟩) | (go_at_call 14; refine (new_s W.heap.size 23 id W).mono ?_; rintro e W1 ⟨rfl, hS, hB1⟩))
  have hM0 := Mx.start hS hB1
  have HM0 := Lib.hid hM0
  have HW := Lib.hid hW
  have zW := hW.size
  obtain ⟨mb, hmb⟩ : ∃ mb, W1.heap.size = mb := ⟨_, rfl⟩
  rw [hmb] at HM0 ⊢
  obtain ⟨V0, hV0⟩ : ∃ V0, W1.alloc (Obj.map #[] 0) = V0 := ⟨_, rfl⟩
  rw [hV0] at HM0 ⊢
  clear hM0 hW hS hB1 hmb hV0 hmm
  have dl : decide (200 < (l.length : Int)) = false := by simp; omega
  have dp : decide (200 < (ps.length : Int)) = false := by simp; omega
  rw [dl, dp]
  simp only [Bool.or_self]
  go_wp2_with fail
  go_loopg [7, 8, 9, 10, 11, 12, 31] l.length (fun gk a7 a8 a9 a10 a11 a12 i wr => ∃ (k : Nat) (S : List It) (ov : Option Nat), k + gk = l.length ∧ i = .int .i64 (k : Int) ∧ S.length ≤ k ∧ Mx W wr mb S k ov)
  case atStart => exact ⟨0, [], none, by omega, rfl, Nat.le_refl _, HM0.out⟩
  case round =>
    clear HM0
    obtain ⟨k, S, ov, hk, rfl, hSl, M⟩ := hrel
    have HM := Lib.hid M
    have zr := M.bel.size
    clear M
    by_cases h0 : gk = 0
    · have hkl : k = l.length := by omega
      subst hkl
      obtain ⟨n0, hm0⟩ := HM.out.mp
      obtain ⟨e1, e2⟩ := hm0.ne HM.out.hp
      have HM0 := Lib.hid hm0
      clear hm0
      go_upto_region 24 with (go_at_call 12; refine (popped_s W.heap.size _ id byKey_lessOf S (by omega) W.heap.size _ ov wr HM.out.hp).mono ?_; rintro e W2 ⟨p2, rfl, hown2, hS2, hT2⟩; obtain ⟨pa, pc, rfl⟩ := own_len hown2)
      have hm2 := HM0.out.touch hT2 e1 e2
      have hB2 : Below W.heap.size W W2 := HM.out.bel.trans (hT2.below (Nat.le_refl _) zr HM.out.hp.ov_ge)
      have hSw := HM.out.wf
      have hlow := HM.out.low
      have HSW := Lib.hid hSw
      have Hm2 := Lib.hid hm2
      have HB2 := Lib.hid hB2
      have HO2 := Lib.hid hown2
      clear hm2 hB2 hown2 hS2 hT2 HM HM0 e1 e2 hSw
      obtain ⟨wo, rfl⟩ : ∃ wo : World, wo = wr := ⟨_, rfl⟩
      go_wp2_with fail
      go_loopw [14, 92] (fun a i wr => ∃ (j n : Nat), j ≤ S.length ∧ i = .int .i64 (j : Int) ∧ Mp wr mb (cntf (S.drop j)) n ∧ wr.ownsRow wo.heap.size 26 2 (.slice pa S.length pc) S.length (flat2 (S.map It.kn)) ∧ Below W.heap.size W wr) (fun _ i _ => S.length - (intOf i).toNat)
      case atStart => exact ⟨0, n0, Nat.zero_le _, rfl, Hm2.out, HO2.out, HB2.out⟩
      case round =>
        clear Hm2 HO2 HB2
        obtain ⟨j, n, hj, rfl, hm, hown, hB⟩ := hrel
        have Hm := Lib.hid hm
        have HO := Lib.hid hown
        have HB := Lib.hid hB
        have zq := hB.size
        clear hm hB
        by_cases hlt : j < S.length
        · obtain ⟨s, T, hs⟩ : ∃ s T, S.drop j = s :: T := ⟨S[j], S.drop (j + 1), by rw [List.drop_eq_getElem_cons hlt]⟩
          have hT' : S.drop (j + 1) = T := by rw [← List.drop_drop, hs]; rfl
          have hws : wfk (s.key, s.name) := HSW.out s (List.mem_of_mem_drop (i := j) (by rw [hs]; simp))
          have hx : (S.map It.kn)[j]? = some (s.key, s.name) := by
            rw [List.getElem?_map]
            have := congrArg List.head? hs
            rw [List.head?_drop] at this
            rw [this]; rfl
          rw [show S.length = (S.map It.kn).length by simp] at hown
          obtain ⟨g5, cp, e', hg1, hg2, d1, d2, _⟩ := own2_at hown j _ hx
          simp only [Value.slice.injEq] at e'
          obtain ⟨rfl, e'', rfl⟩ := e'
          simp only at d1 d2
          rw [hs] at Hm
          have hTl : T.length ≤ 200 := by have := congrArg List.length hs; simp at this; omega
          have HT := Lib.hid hT'
          have HWS := Lib.hid hws
          clear hT' hs hx e'' hown hws
          go_upto_region 26 with fail
          have hm1 := Hm.out.later ((Below.refl _ _).alloc (Nat.le_refl _) (Obj.cells #[.int .i64 s.key, .int .i64 s.name] 26))
          have hk9 := alloc_new wr (Obj.cells #[.int .i64 s.key, .int .i64 s.name] 26)
          have ho1 := HO.out.alloc (Obj.cells #[.int .i64 s.key, .int .i64 s.name] 26)
          have hB1 := HB.out.alloc zq (Obj.cells #[.int .i64 s.key, .int .i64 s.name] 26)
          obtain ⟨V2, hV2⟩ : ∃ V2, wr.alloc (Obj.cells #[.int .i64 s.key, .int .i64 s.name] 26) = V2 := ⟨_, rfl⟩
          rw [hV2] at hm1 hk9 ho1 hB1 ⊢
          have y1 : V2.cell? ⟨wr.heap.size, 0, none⟩ = some (.int .i64 s.key) := (blk_cell hk9 _).trans rfl
          have y2 : V2.cell? ⟨wr.heap.size, 1, none⟩ = some (.int .i64 s.name) := (blk_cell hk9 _).trans rfl
          have y3 := lt_of_block hk9
          have hmd := hm1.later (Below.drew (Below.refl _ _))
          have l1 := hmd.look (s.key, s.name) HWS.out
          obtain ⟨v0, st, o, o', q1, q2, hM', l2⟩ := hmd.put (s.key, s.name) HWS.out (cntf (s :: T) (s.key, s.name) - 1)
          rw [show upd (cntf (s :: T)) (s.key, s.name) (cntf (s :: T) (s.key, s.name) - 1) = cntf T from cntf_tail s T] at hM'
          have hg := setBlock_grown V2.drew mb o o'
          have hrow := hm1.row ho1
          have hcb := cntf_le (s :: T) (s.key, s.name)
          obtain ⟨cv, hcv⟩ : ∃ cv, cntf (s :: T) (s.key, s.name) = cv := ⟨_, rfl⟩
          rw [hcv] at l1 l2 q2 hcb
          rw [List.length_cons] at hcb
          have hw1 : IntKind.i64.wrap (cv - 1) = cv - 1 := IntWalk.i64_in _ (by omega)
          simp only [kvv] at l1 l2 q1
          have HM' := Lib.hid hM'
          have HOe := Lib.hid (own_grown' ho1.drew hg (fun e => hrow e.symm))
          have HBe := Lib.hid ((Below.drew hB1).grown hg (by have := hB1.size; exact this) (fun q hq => by simp at hq; omega))
          clear hcv hmd hM' hg hV2 hk9 hm1 ho1 hB1 hrow
          go_region
          go_wp2_with fail
          go_roundw
          case rel => exact ⟨j + 1, n + 1, by omega, by go_num, by rw [HT.out]; exact HM'.out, HOe.out, HBe.out⟩
          case measure => simp [intOf]; omega
        · obtain rfl : j = S.length := by omega
          rw [List.drop_length] at Hm
          obtain ⟨es, clock, hmb, hq⟩ := Hm.out
          obtain ⟨wq, rfl⟩ : ∃ wq : World, wq = wr := ⟨_, rfl⟩
          have HQ := Lib.hid hq
          have HMB := Lib.hid hmb
          have hrg := run_range_map (P := Try.prog) wq 47 26 3 mb es clock Try.underlying47 hmb
          clear hq hmb Hm hown
          go_wp2_with fail
          go_loopw [16] (fun s w' => ∃ (w1 : World) (seen : Array Nat), w1.Alike wq ∧ w' = w1.alloc (.mapIter (some mb) clock seen clock)) (fun _ w' => (leftOf es (w'.iterSeen wq.heap.size)).size)
          case atStart => exact ⟨wq, #[], ⟨rfl, rfl, rfl⟩, rfl⟩
          case round =>
            obtain ⟨w1, seen, hal, rfl⟩ := hrel
            have hsz : w1.heap.size = wq.heap.size := by rw [hal.1]
            have hb1 : w1.heap[mb]? = some (.map es clock) := by rw [hal.1]; exact HMB.out
            have law := run_next_map (P := Try.prog) w1 0 mb clock clock seen es clock hb1 HQ.out.stamped.1 (Nat.le_refl _)
            rw [hsz] at law
            have HAL := Lib.hid hal
            have HSZ := Lib.hid hsz
            have HB1' := Lib.hid hb1
            clear hal hsz hb1 hrg
            rcases law with ⟨h0', hrun⟩ | ⟨e, he, w2, hal2, hrun⟩
            · have hnx : ∀ ty, (Instr.next (.pointer (some ⟨wq.heap.size, 0, none⟩)) false ty).run Try.prog (w1.alloc (.mapIter (some mb) clock seen clock)) = _ := fun _ => hrun
              clear hrun
              go_wp2_with fail
              go_ret
              refine ⟨rfl, wq.alloc (.mapIter (some mb) clock seen clock), HW.out.trans ((HB.out.alloc zq _).mono zW), ?_, HAL.out.2.1, HAL.out.2.2⟩
              show w1.heap.push _ = wq.heap.push _
              rw [HAL.out.1]
            · obtain ⟨kk, _, _, hval⟩ := HQ.out.vals e (mem_left he).1
              have hz : cntf [] kk = 0 := by simp [cntf]
              rw [hz] at hval
              have hen := run_entry_map (P := Try.prog) w2 mb clock seen es clock e (by rw [hal2.1]; exact HB1'.out) (mem_left he).1 HQ.out.stamped.2.1
              rw [hal2.1, HSZ.out] at hen
              rw [hval] at hrun hen
              have hnx : ∀ ty, (Instr.next (.pointer (some ⟨wq.heap.size, 0, none⟩)) false ty).run Try.prog (w1.alloc (.mapIter (some mb) clock seen clock)) = _ := fun _ => hrun
              have HE := Lib.hid he
              have HA2' := Lib.hid hal2
              clear hrun he hal2 hval hz
              go_wp2_with fail
              go_roundw
              case rel => exact ⟨w2, seen.push e.born, ⟨HA2'.out.1.trans HAL.out.1, HA2'.out.2.1.trans HAL.out.2.1, HA2'.out.2.2.trans HAL.out.2.2⟩, rfl⟩
              case measure =>
                have hs2 : w2.heap.size = wq.heap.size := by rw [HA2'.out.1, HSZ.out]
                rw [← hs2, World.iterSeen_alloc, hs2, ← HSZ.out, World.iterSeen_alloc]
                exact left_shrinks es seen e HE.out
    · obtain ⟨b, off, rfl, hb, hx⟩ := HA.out (by omega)
      obtain ⟨⟨x1, x2⟩, hx0⟩ : ∃ x, l[k]? = some x := ⟨_, List.getElem?_eq_getElem (by omega)⟩
      obtain ⟨c1, c2⟩ := hx k _ hx0
      simp only at c1 c2
      have hwx : wfk (x1, x2) := HWF.out _ (List.mem_of_getElem? hx0)
      have HWX := Lib.hid hwx
      have hbw : b < W.heap.size := by omega
      rw [← HW.out.cell (p := ⟨b, off + k * 2, none⟩) hb, ← HM.out.bel.cell (p := ⟨b, off + k * 2, none⟩) hbw] at c1
      rw [← HW.out.cell (p := ⟨b, off + k * 2 + 1, none⟩) hb, ← HM.out.bel.cell (p := ⟨b, off + k * 2 + 1, none⟩) hbw] at c2
      have hbr : b < wr.heap.size := by omega
      have hkl : k < l.length := by omega
      clear hx hx0 hwx
      obtain ⟨wo, rfl⟩ : ∃ wo : World, wo = wr := ⟨_, rfl⟩
      have HMa := Lib.hid (HM.out.later ((Below.refl _ _).alloc (Nat.le_refl _) (Obj.cells #[.int .i64 x1, .int .i64 x2] 26)))
      have hk8 := alloc_new wo (Obj.cells #[.int .i64 x1, .int .i64 x2] 26)
      go_upto_block 1 with fail
      go_cut [7] from 32 to 88 (fun a7 wx => ∃ (S' : List It) (ov' : Option Nat), S'.length ≤ k + 1 ∧ Mx W wx mb S' ((k + 1 : Nat) : Int) ov')
      case first =>
        go_upto_region 11 with (go_at_call 16; refine (push_s W.heap.size 23 id byKey_lessOf S (by omega) W.heap.size ⟨x1, x2, k⟩ (by simp) (by simp; omega) ov _ (by simp; omega) HMa.out.ords HMa.out.hp).mono ?_; rintro e W2 ⟨rfl, ov', hS', hT, hn⟩)
        have hY := HMa.out.push (x := ⟨x1, x2, k⟩) HWX.out hT hS'
        have k8 := (HMa.out.hp.keeps hT).block hk8 (by decide) (by decide)
        have y1 : W2.cell? ⟨wo.heap.size, 0, none⟩ = some (.int .i64 x1) := (blk_cell k8 _).trans rfl
        have y2 : W2.cell? ⟨wo.heap.size, 1, none⟩ = some (.int .i64 x2) := (blk_cell k8 _).trans rfl
        have y5 := lt_of_block k8
        have HY := Lib.hid hY
        clear hY k8 hT hS' hn hk8 c1 c2
        have hYd := HY.out.later (Below.drew (Below.refl _ _))
        have l1 := hYd.look (x1, x2) HWX.out
        obtain ⟨v0, st, o, o', q1, q2, hM', hg, l2⟩ := hYd.put (x1, x2) HWX.out (cntf S (x1, x2) + 1) (cntf_ins id ⟨x1, x2, k⟩ S)
        have hcb := cntf_le S (x1, x2)
        obtain ⟨cv, hcv⟩ : ∃ cv, cntf S (x1, x2) = cv := ⟨_, rfl⟩
        rw [hcv] at l1 l2 q2 hcb
        have hw1 : IntKind.i64.wrap (cv + 1) = cv + 1 := IntWalk.i64_in _ (by omega)
        simp only [kvv] at l1 l2 q1
        have HM' := Lib.hid hM'
        have HG := Lib.hid hg
        clear hcv hYd hM' hg
        go_region
        go_upto_region 12 with fail
        obtain ⟨V1, hV1⟩ : ∃ V1, setBlock (setBlock W2.drew mb o) mb o' = V1 := ⟨_, rfl⟩
        rw [hV1] at HM' HG ⊢
        have HM1 := Lib.hid (show Mx W V1 mb (ins id ⟨x1, x2, k⟩ S) ((k + 1 : Nat) : Int) ov' from by have := HM'.out; simpa using this)
        have z1 := HM1.out.bel.size
        clear hV1 HM' HG l1 l2 q1 q2 hw1 y1 y2 y5 HY HMa HM hcb
        obtain ⟨S1, hS1⟩ : ∃ S1, ins id ⟨x1, x2, k⟩ S = S1 := ⟨_, rfl⟩
        have hS1l : S1.length ≤ k + 1 := by rw [← hS1, ins_length]; omega
        rw [hS1] at HM1
        clear hS1
        by_cases hkp : k < ps.length
        · obtain ⟨b2, off2, rfl, hb2, hx2⟩ := HA2.out (by omega)
          obtain ⟨cs, rfl, _, hc⟩ := hx2 k hkp
          have c3 := hc 0 (by omega)
          simp only [Nat.mul_one, Nat.add_zero, List.getElem?_cons_zero] at c3
          have hb2w : b2 < W.heap.size := by omega
          rw [← HW.out.cell (p := ⟨b2, off2 + k, none⟩) hb2, ← HM1.out.bel.cell (p := ⟨b2, off2 + k, none⟩) hb2w] at c3
          have hpb := HPW.out (ps.getD k 0) (by rw [List.getD_eq_getElem?_getD, List.getElem?_eq_getElem hkp]; simp)
          obtain ⟨pn, hpn⟩ : ∃ pn : Nat, ps.getD k 0 = (pn : Int) := ⟨(ps.getD k 0).toNat, by omega⟩
          rw [hpn] at c3 hpb
          clear hx2 hc hpn
          obtain ⟨m, hm⟩ : ∃ m, pn % 3 = m := ⟨_, rfl⟩
          have hm3 : m ≤ 2 := by omega
          have hmm : (pn : Int) % 3 = (m : Int) := by omega
          have HMM := Lib.hid hmm
          clear hm hmm
          go_wp2_with fail
          rw [HMM.out]
          go_loopg [9, 10, 11, 12, 55] m (fun gj a9 a10 a11 a12 i wi => ∃ (j : Nat) (S' : List It) (ov2 : Option Nat), j + gj = m ∧ i = .int .i64 (j : Int) ∧ S'.length ≤ k + 1 ∧ Mx W wi mb S' ((k + 1 : Nat) : Int) ov2)
          case atStart => exact ⟨0, S1, ov', by omega, rfl, hS1l, HM1.out⟩
          case round =>
            clear HM1 hS1l
            obtain ⟨j, S', ov2, hj, rfl, hSl', M'⟩ := hrel
            have HM2 := Lib.hid M'
            have zw := M'.bel.size
            clear M' c3
            by_cases hg0 : gk = 0
            · go_wp2_with fail
              go_meet
              exact ⟨S', ov2, hSl', HM2.out⟩
            · cases S' with
              | nil =>
                go_wp2_with (go_at_call 24; refine (pop_s_none W.heap.size _ id W.heap.size _ ov2 _ HM2.out.hp).mono ?_; rintro e W3 ⟨rfl, hW3⟩)
                go_meet
                exact ⟨[], ov2, by simp, (HM2.out.later hW3).later ((Below.refl _ _).alloc (Nat.le_refl _) _)⟩
              | cons s T =>
                have hTl : T.length ≤ k := by simpa using hSl'
                go_upto_region 17 with (go_at_call 24; refine (pop_s W.heap.size _ id byKey_lessOf T s (by omega) W.heap.size _ ov2 _ HM2.out.hp).mono ?_; rintro e W3 ⟨rfl, hS3, hT3⟩)
                have hY := (HM2.out.pop hT3 hS3).later ((Below.refl _ _).alloc (Nat.le_refl _) (Obj.cells #[.int .i64 s.key, .int .i64 s.name] 26))
                have hk9 := alloc_new W3 (Obj.cells #[.int .i64 s.key, .int .i64 s.name] 26)
                obtain ⟨V2, hV2⟩ : ∃ V2, W3.alloc (Obj.cells #[.int .i64 s.key, .int .i64 s.name] 26) = V2 := ⟨_, rfl⟩
                rw [hV2] at hY hk9 ⊢
                have hws : wfk (s.key, s.name) := HM2.out.wf s (by simp)
                have hsrt := List.pairwise_cons.1 HM2.out.srt
                have y1 : V2.cell? ⟨W3.heap.size, 0, none⟩ = some (.int .i64 s.key) := (blk_cell hk9 _).trans rfl
                have y2 : V2.cell? ⟨W3.heap.size, 1, none⟩ = some (.int .i64 s.name) := (blk_cell hk9 _).trans rfl
                have y3 := lt_of_block hk9
                have hYd := hY.later (Below.drew (Below.refl _ _))
                have l1 := hYd.look (s.key, s.name) hws
                obtain ⟨v0, st, o, o', q1, q2, hM', hg, l2⟩ := hYd.put (s.key, s.name) hws (cntf (s :: T) (s.key, s.name) - 1) (cntf_tail s T)
                have hcb := cntf_le (s :: T) (s.key, s.name)
                obtain ⟨cv, hcv⟩ : ∃ cv, cntf (s :: T) (s.key, s.name) = cv := ⟨_, rfl⟩
                rw [hcv] at l1 l2 q2 hcb
                rw [List.length_cons] at hcb
                have hw1 : IntKind.i64.wrap (cv - 1) = cv - 1 := IntWalk.i64_in _ (by omega)
                simp only [kvv] at l1 l2 q1
                have k9 : (setBlock (setBlock V2.drew mb o) mb o').heap[W3.heap.size]? = some (.cells #[.int .i64 s.key, .int .i64 s.name] 26 (0, 0)) := by
                  rw [hg.block W3.heap.size y3 (fun e => by simp at e; obtain ⟨n, hm⟩ := hY.mp; obtain ⟨es, c, hmb, _⟩ := hm; rw [← e, hk9] at hmb; simp at hmb)]
                  exact hk9
                have HM' := Lib.hid hM'
                have HK9 := Lib.hid k9
                have HWS := Lib.hid hws
                have HSR := Lib.hid hsrt
                clear hcv hYd hM' hg hY hV2 hk9 hS3 hT3 hws hsrt k9
                go_region
                go_upto_region 18 with fail
                obtain ⟨V3, hV3⟩ : ∃ V3, setBlock (setBlock V2.drew mb o) mb o' = V3 := ⟨_, rfl⟩
                rw [hV3] at HM' HK9 ⊢
                have z3 := HM'.out.bel.size
                clear hV3 l1 l2 q1 q2 hw1 y1 y2 y3 hcb
                cases T with
                | nil =>
                  go_upto_region 19 with (go_at_call 25; refine (peek_s_none W.heap.size _ id W.heap.size _ ov2 _ HM'.out.hp).mono ?_; rintro e W4 ⟨rfl, hW4⟩)
                  have hM4 := (HM'.out.later hW4).later ((Below.refl _ _).alloc (Nat.le_refl _) (Obj.cells #[.int .i64 0, .int .i64 0] 26))
                  have k9 := alloc_block (Obj.cells #[.int .i64 0, .int .i64 0] 26) (ext_block ⟨W4, hW4⟩ HK9.out)
                  simp only at k9
                  obtain ⟨V4, hV4⟩ : ∃ V4, W4.alloc (Obj.cells #[.int .i64 0, .int .i64 0] 26) = V4 := ⟨_, rfl⟩
                  rw [hV4] at hM4 k9 ⊢
                  have y1 : V4.cell? ⟨W3.heap.size, 0, none⟩ = some (.int .i64 s.key) := (blk_cell k9 _).trans rfl
                  have y2 : V4.cell? ⟨W3.heap.size, 1, none⟩ = some (.int .i64 s.name) := (blk_cell k9 _).trans rfl
                  have y3 := lt_of_block k9
                  have l1 := hM4.look (s.key, s.name) HWS.out
                  have hcb := cntf_le [] (s.key, s.name)
                  obtain ⟨c2, hc2⟩ : ∃ c2, cntf [] (s.key, s.name) = c2 := ⟨_, rfl⟩
                  rw [hc2] at l1 hcb
                  simp only [kvv] at l1
                  have hd : decide (c2 < 0) = false := by simp; omega
                  have HM4 := Lib.hid hM4
                  clear hM4 k9 hV4 hW4 hc2 hcb
                  go_wp2_with fail
                  go_roundg (gk - 1)
                  case measure => omega
                  case rel => exact ⟨j + 1, [], ov2, by omega, by go_num, by simp, HM4.out⟩
                | cons t T2 =>
                  have hlt : decide (t.key < s.key) = false := by
                    have := HSR.out.1 t (by simp)
                    rw [lt_iff] at this
                    simp only [id] at this
                    simp; omega
                  have HLT := Lib.hid hlt
                  clear hlt
                  go_upto_region 19 with (go_at_call 25; refine (peek_s W.heap.size _ id T2 t (by simp at hTl; omega) W.heap.size _ ov2 _ HM'.out.hp).mono ?_; rintro e W4 ⟨rfl, hW4⟩)
                  have hM4 := (HM'.out.later hW4).later ((Below.refl _ _).alloc (Nat.le_refl _) (Obj.cells #[.int .i64 t.key, .int .i64 t.name] 26))
                  have k9 := alloc_block (Obj.cells #[.int .i64 t.key, .int .i64 t.name] 26) (ext_block ⟨W4, hW4⟩ HK9.out)
                  simp only at k9
                  have k11 := alloc_new W4 (Obj.cells #[.int .i64 t.key, .int .i64 t.name] 26)
                  obtain ⟨V4, hV4⟩ : ∃ V4, W4.alloc (Obj.cells #[.int .i64 t.key, .int .i64 t.name] 26) = V4 := ⟨_, rfl⟩
                  rw [hV4] at hM4 k9 k11 ⊢
                  have y1 : V4.cell? ⟨W3.heap.size, 0, none⟩ = some (.int .i64 s.key) := (blk_cell k9 _).trans rfl
                  have y2 : V4.cell? ⟨W3.heap.size, 1, none⟩ = some (.int .i64 s.name) := (blk_cell k9 _).trans rfl
                  have y3 := lt_of_block k9
                  have y4 : V4.cell? ⟨W4.heap.size, 0, none⟩ = some (.int .i64 t.key) := (blk_cell k11 _).trans rfl
                  have y5 : V4.cell? ⟨W4.heap.size, 1, none⟩ = some (.int .i64 t.name) := (blk_cell k11 _).trans rfl
                  have y6 := lt_of_block k11
                  have HM4 := Lib.hid hM4
                  have HK9' := Lib.hid k9
                  clear hM4 k9 k11 hV4 hW4
                  go_wp2_with fail
                  refine (lit_of (byKey_any t.key t.name s.key s.name V4) HLT.out).mono ?_
                  rintro e W5 ⟨rfl, hW5⟩
                  dsimp only
                  have hM5 := HM4.out.later hW5
                  have k9 := ext_block ⟨W5, hW5⟩ HK9'.out
                  simp only at k9
                  have y1' : W5.cell? ⟨W3.heap.size, 0, none⟩ = some (.int .i64 s.key) := (blk_cell k9 _).trans rfl
                  have y2' : W5.cell? ⟨W3.heap.size, 1, none⟩ = some (.int .i64 s.name) := (blk_cell k9 _).trans rfl
                  have y3' := lt_of_block k9
                  have l1 := hM5.look (s.key, s.name) HWS.out
                  have hcb := cntf_le (t :: T2) (s.key, s.name)
                  obtain ⟨c2, hc2⟩ : ∃ c2, cntf (t :: T2) (s.key, s.name) = c2 := ⟨_, rfl⟩
                  rw [hc2] at l1 hcb
                  simp only [kvv] at l1
                  have hd : decide (c2 < 0) = false := by simp; omega
                  have HM5 := Lib.hid hM5
                  clear hM5 k9 hW5 hc2 hcb y1 y2 y3 y4 y5 y6 HM4 HK9'
                  go_wp2_with fail
                  go_roundg (gk - 1)
                  case measure => omega
                  case rel => exact ⟨j + 1, t :: T2, ov2, by omega, by go_num, by simp at hTl ⊢; omega, HM5.out⟩
        · go_wp2_with fail
          go_meet
          exact ⟨S1, ov', hS1l, HM1.out⟩
      case rest =>
        obtain ⟨S', ov', hSl', M'⟩ := hcut
        have HM' := Lib.hid M'
        clear M' c1 c2 HMa hk8 HM
        go_wp2_with fail
        go_roundg (gk - 1)
        case measure => omega
        case rel => exact ⟨k + 1, S', ov', by omega, by go_num, hSl', HM'.out⟩


set_option maxHeartbeats 400000 in
theorem mixes_out (v : Value) (l : List (Int × Int)) (u : Value) (ps : List Int) (hlen : 200 < l.length ∨ 200 < ps.length) (w : World) (H : ReadsAs w w.heap.size v l.length 2 (fun i cs => cs = [.int .i64 (l.getD i (0, 0)).1, .int .i64 (l.getD i (0, 0)).2])) (HQ : ReadsAs w w.heap.size u ps.length 1 (fun i cs => cs = [.int .u8 (ps.getD i 0)])) :
    Calls Try.prog 6 #[v, u] w (RetAlike w) := by
  obtain ⟨A, cap, rfl, hc1, hc2, hA⟩ := H
  obtain ⟨A2, cap2, rfl, hc3, hc4, hA2⟩ := HQ
  unfold maxLen at hc2 hc4
  clear hA hA2
  by_cases h1 : 200 < l.length
  · clear hlen
    go_enter Try.func6, Try.ntmps6
    go_wp2_with (go_at_call 11; refine (awake_any _).mono ?_; rintro e W ⟨rfl, hW⟩)
    all_goals
      go_ret
      exact ⟨rfl, W, hW, rfl, rfl, rfl⟩
  · have h2 : 200 < ps.length := by omega
    clear hlen
    go_enter Try.func6, Try.ntmps6
    go_wp2_with (go_at_call 11; refine (awake_any _).mono ?_; rintro e W ⟨rfl, hW⟩)
    all_goals
      go_ret
      exact ⟨rfl, W, hW, rfl, rfl, rfl⟩
theorem u8_in {p : Int} (h : (Lit.int .u8 p).wf = true) : 0 ≤ p ∧ p ≤ 255 := by
  simp [Lit.wf] at h
  have e1 : IntKind.u8.min = 0 := by decide
  have e2 : IntKind.u8.max = 255 := by decide
  omega
theorem mixes_any (v : Value) (l : List (Int × Int)) (hwf : ∀ x ∈ l, (Lit.int .i64 x.1).wf = true ∧ (Lit.int .i64 x.2).wf = true) (u : Value) (ps : List Int) (hpw : ∀ p ∈ ps, 0 ≤ p ∧ p ≤ 255) (w : World) (H : ReadsAs w w.heap.size v l.length 2 (fun i cs => cs = [.int .i64 (l.getD i (0, 0)).1, .int .i64 (l.getD i (0, 0)).2])) (HQ : ReadsAs w w.heap.size u ps.length 1 (fun i cs => cs = [.int .u8 (ps.getD i 0)])) :
    Calls Try.prog 6 #[v, u] w (RetAlike w) := by
  by_cases h : l.length ≤ 200 ∧ ps.length ≤ 200
  · exact mixes_in v l h.1 hwf u ps h.2 hpw w (Reads2.of_as H) HQ
  · exact mixes_out v l u ps (by omega) w H HQ

set_option maxRecDepth 100000 in
theorem heapMixes_lifted (os : Os) (started : os.Started) (H : Type) (enc : TypeId × Value → H) :
    ReturnsInHanded {} Try.checked os 6 .any (Rows.heapMixesSpec.pre6 enc Try.prog Try.f6 Rows.heapMixesRow.domain false) (Rows.heapMixesSpec.post enc Try.prog Try.f6 false true false false) := by
  refine returnsInHanded_of_change (C := Try.checked) own started (by kernel_rfl) Try.func6
    (ChangeSpec.witness6 (enc := enc) (C := Try.checked) false ⟨#[], #[.slice none 0 0, .slice none 0 0], []⟩ 8 (by kernel_rfl) (by kernel_rfl) (by kernel_rfl) (by kernel_rfl)) ?_
  intro W base args ds gs before hval0 hW hcnd _
  have hval : ∀ (j : Nat) t v, Try.f6.params[j]? = some t → args[j]? = some v → Value.okWide Try.prog W .any base t v := hval0
  have hW' := hW
  obtain ⟨p, q, hA0, hV, rfl, hfz, hnd⟩ := hW
  have hA : DataW.TrodAll enc Try.prog W 0 (fun _ => true) true Try.f6.params.toList args.toList ds p := hA0
  rw [Try.params6] at hA hval
  obtain ⟨v0, vs0, d0, ds0, p0, q0, hargs, rfl, rfl, h0, r0⟩ := trodAll_cons hA
  obtain ⟨v1, vs1, d1, ds1, p1, q1, rfl, rfl, rfl, h1, r1⟩ := trodAll_cons r0
  obtain ⟨rfl, rfl, rfl⟩ := trodAll_nil r1
  obtain rfl : args = #[v0, v1] := by cases args; simp_all
  obtain ⟨rfl, rfl⟩ := trodVars_none hV
  have k0 := h0
  have lt0 : ∀ x ∈ p0, x.block < W.heap.size := by obtain ⟨m, hm⟩ := k0; exact DataW.trod_lt m _ _ _ hm
  have ok0 := hval 0 24 v0 rfl rfl
  have k1 := h1
  have lt1 : ∀ x ∈ p1, x.block < W.heap.size := by obtain ⟨m, hm⟩ := k1; exact DataW.trod_lt m _ _ _ hm
  have ok1 := hval 1 46 v1 rfl rfl
  obtain ⟨l0, R0, wf0⟩ := open_pairs_as Try.underlying24 Try.underlying26 Try.underlying3 Try.underlying3 (by kernel_rfl) (by kernel_rfl) rfl rfl (by kernel_rfl) ok0 h0
  obtain ⟨l1, R1, wf1⟩ := open_ints_as Try.underlying46 Try.underlying5 (by kernel_rfl) ok1 h1
  clear hA0 hval0
  refine (mixes_any v0 l0 wf0 v1 l1 (fun p hp => u8_in (wf1 p hp)) W R0 R1).mono fun e W' ⟨he, W'', bel, al⟩ => ?_
  subst he
  exact ⟨_, rfl, ChangeSpec.post_alike (W'' := W'') ⟨_, _, _, [], _, [], hW', trodAll_mk1 (shut_bool Try.underlying4 _), (trodAll_cons_mk (Below.trod laidOut (by kernel_rfl) (of_decide_eq_true (by kernel_rfl)) k0 bel lt0) (trodAll_cons_mk (Below.trod laidOut (by kernel_rfl) (of_decide_eq_true (by kernel_rfl)) k1 bel lt1) trodAll_mk0)), rfl, bel.frame _, fun h => by cases h⟩ al⟩

/-- The statement. -/
theorem heapMixes_holds : Rows.HeapMixesSaid :=
  OpenClaim.holds_of_wide 6 Try.f6 rfl rfl rfl rfl rfl rfl rfl ⟨rfl, rfl, rfl, rfl, rfl⟩ rfl rfl rfl rfl rfl (by kernel_rfl) Try.func6 (by kernel_rfl)
    (of_decide_eq_true (by kernel_rfl)) (by unfold Func.isWrapper; first | (rw [if_pos (by decide +kernel)]; kernel_rfl) | (rw [if_neg (by decide +kernel)]; exact ⟨rfl, rfl⟩))
    (fun os started H enc _ => heapMixes_lifted os started H enc)


end Go.Proofs.Ytekdjjfbkcgmhaa
