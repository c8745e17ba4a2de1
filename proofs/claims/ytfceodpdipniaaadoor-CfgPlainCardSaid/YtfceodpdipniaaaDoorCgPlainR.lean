/-
  What is proved here: plain facts for CfgPlain: the memory in its loop, the new code's words, the graph before and behind the insertion.
-/
import Derived.Test.YtfceodpdipniaaaDoorCgPlainQ
import Derived.Test.YtfceodpdipniaaaDoorCgEdges
import Derived.Test.YtfceodpdipniaaaDoorCgAwake
import Derived.Test.YtfceodpdipniaaaDoorCgOpen2
namespace Go.Proofs.YtfceodpdipniaaaDoor
open Go.RowKit
set_option linter.unusedVariables false
set_option linter.unusedSimpArgs false

theorem WordsN.belowV {w w' : World} {v : Value} {n : Nat} {cd : Nat → Int} (h : WordsN w v n cd) (hb : Below w.heap.size w w') : WordsN w' v n cd := by
  obtain ⟨A, cap, h1, h2, h3, h4⟩ := h.at_
  refine ⟨h.wd, A, cap, h1, h2, h3, fun h0 => ?_⟩
  obtain ⟨b, off, ha, hlt, hc⟩ := h4 h0
  exact ⟨b, off, ha, by have := hb.size; omega, fun i hi => (hb.cell (p := ⟨b, off + i, none⟩) hlt).trans (hc i hi)⟩
def LeaveIs (C : Int → Ins) (st en : Nat) (r : Int) : Prop := (r = -1 ∧ ∀ k : Nat, st ≤ k → k < en → Rch C st en (k : Int) → ¬ Bads C st en (k : Int)) ∨ (∃ k : Nat, r = (k : Int) ∧ st ≤ k ∧ k < en ∧ Rch C st en (k : Int) ∧ Bads C st en (k : Int) ∧ ∀ k' : Nat, st ≤ k' → k' < k → Rch C st en (k' : Int) → ¬ Bads C st en (k' : Int))
theorem keepsV {W w' : World} (h : Below W.heap.size W w') : (∀ b o, b < W.heap.size → w'.cell? ⟨b, o, none⟩ = W.cell? ⟨b, o, none⟩) ∧ Below W.heap.size W w' := ⟨fun b o hb => h.cell (p := ⟨b, o, none⟩) hb, h⟩
theorem infoUP : (Tryd.prog.info? 56).map (fun i => (i.zero, i.size, i.bytes)) = some (some (.int .u32 0), 1, 4) := by kernel_rfl
theorem two_new (W : World) (o1 o2 : Obj) : ((W.alloc o1).alloc o2).drew.heap[W.heap.size]? = some o1 ∧ ((W.alloc o1).alloc o2).drew.heap[W.heap.size + 1]? = some o2 ∧ ((W.alloc o1).alloc o2).drew.heap.size = W.heap.size + 2 ∧ Below W.heap.size W ((W.alloc o1).alloc o2).drew := by
  refine ⟨?_, ?_, ?_, Below.drew (((Below.refl _ _).alloc (Nat.le_refl _) _).alloc (by simp) _)⟩
  · show ((W.alloc o1).alloc o2).heap[W.heap.size]? = some o1
    rw [heap_alloc_old _ _ (by simp)]
    exact heap_alloc_new _ _
  · show ((W.alloc o1).alloc o2).heap[W.heap.size + 1]? = some o2
    exact heap_alloc_at _ _ (by simp)
  · show ((W.alloc o1).alloc o2).heap.size = W.heap.size + 2
    simp
theorem list_one {α : Type} {l : List α} (h : l.length = 1) : ∃ e, l = [e] := by
  match l, h with
  | [e], _ => exact ⟨e, rfl⟩
/-- The memory in the loop: the new image. -/
structure PG (V wr : World) (ib : Nat) (cv ev : Value) (sh lk : Int) (ws : List Int) : Prop where
  ib1 : ib < V.heap.size
  os : wr.os = V.os
  tape : wr.tape = V.tape
  output : wr.output = V.output
  sz : V.heap.size ≤ wr.heap.size
  blk : ∀ k, k < V.heap.size → k ≠ ib → wr.heap[k]? = V.heap[k]?
  im : wr.heap[ib]? = some (.cells #[cv, ev, .int .i64 sh, .int .i64 lk] 25 (0, 0))
  row : wr.ownsRow V.heap.size 56 1 cv ws.length (uvs ws)
theorem PG.below {V wr wr' : World} {ib : Nat} {cv ev : Value} {sh lk : Int} {ws : List Int} (h : PG V wr ib cv ev sh lk ws) (hb : Below wr.heap.size wr wr') : PG V wr' ib cv ev sh lk ws :=
  ⟨h.ib1, hb.os.trans h.os, hb.tape.trans h.tape, hb.output.trans h.output, Nat.le_trans h.sz hb.size, fun k h1 h2 => (hb.block k (by have := h.sz; omega)).trans (h.blk k h1 h2), (hb.block _ (by have := h.sz; have := h.ib1; omega)).trans h.im, ownsRow_below h.row hb⟩
theorem PG.base {V wr w : World} {ib : Nat} {cv ev : Value} {sh lk : Int} {ws : List Int} (h : PG V wr ib cv ev sh lk ws) (hb : Below w.heap.size w V) (hi : w.heap.size ≤ ib) : Below w.heap.size w wr :=
  ⟨h.os.trans hb.os, h.tape.trans hb.tape, h.output.trans hb.output, Nat.le_trans hb.size h.sz, fun k hk => (h.blk k (by have := hb.size; omega) (by omega)).trans (hb.block k hk)⟩
theorem PG.app {V wr w2 W' : World} {ib : Nat} {cv ev v' : Value} {sh lk : Int} {ws : List Int} {x : Int} (h : PG V wr ib cv ev sh lk ws) (hb : Below wr.heap.size wr w2) (hg : w2.grownBy W' cv.ownBlock) (hown : W'.ownsRow V.heap.size 56 1 v' (ws.length + 1) (uvs (ws ++ [x]))) : PG V (W'.setCell ⟨ib, 0, none⟩ v') ib v' ev sh lk (ws ++ [x]) := by
  have G := grown_of hb hg
  have i1 := h.ib1
  have hsz := h.sz
  have hgs := G.size
  have rl : ∀ q, cv.ownBlock = some q → V.heap.size ≤ q := fun q hq => (h.row.lt q hq).1
  have sm : ∀ k, k < V.heap.size → W'.heap[k]? = wr.heap[k]? := fun k hk => G.block k (by omega) (fun e => by have := rl k e.symm; omega)
  refine ⟨i1, G.os.trans h.os, G.tape.trans h.tape, G.output.trans h.output, by simp; omega, fun k h1 h2 => ?_, ?_, ?_⟩
  · rw [Below.heap_setCell _ _ _ _ h2]; exact (sm k h1).trans (h.blk k h1 h2)
  · rw [heap_setCell_same W' ib 0 _ _ v' ((sm ib i1).trans h.im)]; rfl
  · rw [show (ws ++ [x]).length = ws.length + 1 by simp]
    exact ownsRow_setCell_other hown (fun e => by have := (hown.lt ib e).1; omega) _
theorem PG.slice {V wr : World} {ib : Nat} {cv ev : Value} {sh lk : Int} {ws : List Int} (h : PG V wr ib cv ev sh lk ws) : ∃ cA ccap, cv = .slice cA ws.length ccap := by
  rcases h.row.2 with ⟨h, h'⟩ | ⟨g, cap', cur, h, _⟩
  · exact ⟨_, _, by rw [h, h']⟩
  · exact ⟨_, _, h⟩
/-- How many words the new code has before the word of instruction i. -/
def lenM (k i : Nat) : Nat := if i < k then i else i + 1
/-- The words of the new code. -/
def wsN (cd : Nat → Int) (k m : Nat) : List Int := (List.range m).map (cdN cd k)
theorem wsN_len (cd : Nat → Int) (k m : Nat) : (wsN cd k m).length = m := by simp [wsN]
theorem wsN_succ (cd : Nat → Int) (k m : Nat) : wsN cd k (m + 1) = wsN cd k m ++ [cdN cd k m] := by simp [wsN, List.range_succ]
theorem wsN_k (cd : Nat → Int) (k : Nat) : wsN cd k (lenM k k) = wsN cd k (lenN k k) ++ [0] := by
  unfold lenM lenN
  rw [if_neg (by omega), if_pos (Nat.le_refl _), wsN_succ, cdN_k]
theorem lenNM {k i : Nat} (h : i ≠ k) : lenM k i = lenN k i := by
  unfold lenM lenN
  split <;> split <;> omega
theorem wsN_next (cd : Nat → Int) (k i : Nat) : wsN cd k (lenN k (i + 1)) = wsN cd k (lenM k i) ++ [wdOf cd k i] := by
  have e : lenN k (i + 1) = lenM k i + 1 := by unfold lenN lenM; split <;> split <;> omega
  rw [e, wsN_succ]
  congr 2
  unfold cdN lenM
  by_cases h : i < k
  · rw [if_pos h, if_pos h]
  · rw [if_neg h, if_neg (by omega), if_neg (by omega)]
    rfl
theorem kn_lt {cd : Nat → Int} {n kn j : Nat} {e : Ent} {D : List Int} {L : List (Int × Int)} (GI : GInv (insAt cd) e.st e.en D L) (h1 : e.st = 0) (h2 : e.en = (n : Int)) (hj : j < L.length) (hk2 : (kn : Int) < (L[j]).2) : kn < n := by
  have h := (GI.b.lo _ (List.getElem_mem hj)).2.2
  omega
theorem put_of {cd : Nat → Int} {n kn j : Nat} {e : Ent} {sh lk : Int} {D : List Int} {L : List (Int × Int)} (GI : GInv (insAt cd) e.st e.en D L) (hL : blk (insAt cd) e.st D (e.en - e.st).toNat = L) (h1 : e.st = 0) (h2 : e.en = (n : Int)) (hj : j < L.length) (hk1 : (L[j]).1 < (kn : Int)) (hk2 : (kn : Int) < (L[j]).2) (N : NewCode n cd kn e sh lk) : Put (insAt cd) (insAt (cdN cd kn)) (n : Int) (kn : Int) D := by
  subst hL
  have hlo := GI.b.lo _ (List.getElem_mem hj)
  obtain ⟨i1, i2⟩ := GI.inn0 (List.getElem_mem hj) hk1 hk2
  have hn := kn_lt GI h1 h2 hj hk2
  rw [h1, h2] at GI
  rw [h1] at i2
  exact ⟨by omega, by omega, GI, i1, i2, fun a ha hb => N.mv a ha hb, N.nop⟩
theorem plain_same {cd : Nat → Int} {n kn : Nat} {e : Ent} {D : List Int} {L : List (Int × Int)} {r' : Res} (P : Put (insAt cd) (insAt (cdN cd kn)) (n : Int) (kn : Int) D) (hL : blk (insAt cd) e.st D (e.en - e.st).toNat = L) (h1 : e.st = 0) (h2 : e.en = (n : Int)) (hO : Out (insAt (cdN cd kn)) 0 ((n : Int) + 1) r') :
    r'.er = 0 ∧ r'.G.length = (gBlks (insAt cd) L).length ∧ edg r'.G r'.G.length [] = edg (gBlks (insAt cd) L) (gBlks (insAt cd) L).length [] ∧ exits r'.G r'.G.length = exits (gBlks (insAt cd) L) (gBlks (insAt cd) L).length := by
  rw [h1, h2] at hL
  subst hL
  obtain ⟨p1, p2, p3⟩ := P.same hO
  exact ⟨p1, p2, edg_same p2 p3, exits_same p2 p3⟩
theorem words_congr {w : World} {v : Value} {n : Nat} {c c' : Nat → Int} (h : Words w v n c) (e : ∀ i, i < n → c i = c' i) : Words w v n c' := by
  obtain ⟨A, cap, h1, h2, h3, h4⟩ := h.at_
  refine ⟨h.le, fun i hi => by rw [← e i hi]; exact h.wd i hi, A, cap, h1, h2, h3, fun h0 => ?_⟩
  obtain ⟨b, off, h5, h6, h7⟩ := h4 h0
  exact ⟨b, off, h5, h6, fun i hi => by rw [← e i hi]; exact h7 i hi⟩
theorem one_ent {w : World} {b : Nat} {e : Ent} {t : TypeId} (h : w.heap[b]? = some (.cells #[.string e.nm, .int .i64 e.st, .int .i64 e.en, .int .i64 e.da] t)) (hn : e.nm.size ≤ maxLen) : Ents w (.slice (some ⟨b, 0, none⟩) 1 1) [e] := by
  refine ⟨fun x hx => by simp at hx; subst hx; exact hn, _, _, rfl, Nat.le_refl _, by unfold maxLen; omega, fun _ => ⟨b, 0, rfl, (Array.getElem?_eq_some_iff.1 h).1, fun i x hx => ?_⟩⟩
  have hi : i = 0 := by have := (List.getElem?_eq_some_iff.1 hx).1; simp at this; omega
  subst hi
  simp at hx
  subst hx
  simp [World.cell?, h]
theorem dec_split {cd : Nat → Int} {n kn i : Nat} {e : Ent} {sh lk : Int} (hG : GoodI n cd [e] sh lk) (hw : ∀ i, i < n → 0 ≤ cd i ∧ cd i < 4294967296) (hi : i < n) : (decI (cd i)).2 = 0 ∧ insAt cd (i : Int) = (decI (cd i)).1 ∧ (isBr (insAt cd (i : Int)).op = true → 0 ≤ (i : Int) + 1 + (insAt cd (i : Int)).imm ∧ (i : Int) + 1 + (insAt cd (i : Int)).imm < (n : Int)) ∧ 0 ≤ (insAt cd (i : Int)).op ∧ -131072 ≤ (insAt cd (i : Int)).imm ∧ (insAt cd (i : Int)).imm ≤ 131072 := by
  obtain ⟨c1, c2, c3⟩ := hG.ch
  have c3' : e.en = (n : Int) := c3
  have h := hG.ins e (by simp) i (by omega) (by omega)
  have h1 := h.dec
  simp only [Int.toNat_natCast] at h1
  have hi' : insAt cd (i : Int) = (decI (cd i)).1 := by simp [insAt]
  obtain ⟨q, hg, -⟩ := decI_good (hw i hi).1 h1
  have ht := h.tgt
  rw [c1, c3'] at ht
  have hop := hg.op
  have him := hg.imm
  have hlt := hg.lt
  have hlh : ∀ q, q < 30 → -131072 ≤ immLo q ∧ immHi q ≤ 131072 := by decide
  have := hlh q hlt
  rw [hi'] at ht ⊢
  exact ⟨h1, rfl, ht, by omega, by omega, by omega⟩

end Go.Proofs.YtfceodpdipniaaaDoor
