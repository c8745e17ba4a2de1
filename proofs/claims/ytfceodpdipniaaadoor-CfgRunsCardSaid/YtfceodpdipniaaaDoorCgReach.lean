/-
  What is proved here: what cfg.reach returns.
-/
import Derived.Test.YtfceodpdipniaaaDoorCgReachP
import Derived.Maps.AppendAt
import Derived.Laws.OwnMore
import Derived.WalkSmall
import Derived.Deep.CutBlock
import Derived.Deep.DeepCutAuto
import Derived.IntWalk
namespace Go.Proofs.YtfceodpdipniaaaDoor
open Go.RowKit
set_option linter.unusedVariables false
set_option linter.unusedSimpArgs false

theorem ownsRow_below {w w' : World} {base : Nat} {e : TypeId} {size : Nat} {v : Value} {n : Nat} {xs : List Value} (h : w.ownsRow base e size v n xs) (hb : Below w.heap.size w w') : w'.ownsRow base e size v n xs :=
  h.kept (row := none) ⟨hb.os, hb.tape, hb.output, hb.size, fun k hk _ => hb.block k hk⟩ (by
    cases hv : v.ownBlock with
    | none => exact .inl rfl
    | some k => exact .inr (by simp))
theorem ownsRow_base {w : World} {base base' : Nat} {e : TypeId} {size : Nat} {v : Value} {n : Nat} {xs : List Value} (h : w.ownsRow base e size v n xs) (hb : base' ≤ base) : w.ownsRow base' e size v n xs := by
  refine ⟨h.1, ?_⟩
  rcases h.2 with h1 | ⟨g, cap, cur, h1, h2, h3⟩
  · exact .inl h1
  · exact .inr ⟨g, cap, cur, h1, by omega, h3⟩
/-- A block of cells of another shape is not touched. -/
theorem grown_below {w w' : World} {base S : Nat} {e : TypeId} {size n : Nat} {v : Value} {xs : List Value} (h : w.ownsRow base e size v n xs) (g : w.grownBy w' v.ownBlock) (hS : S ≤ base) (hw : S ≤ w.heap.size) : Below S w w' :=
  (Below.refl S w).grown g hw (fun k hk => by have := h.lt k hk; omega)

abbrev ivs (l : List Int) : List Value := l.map (Value.int .i64)

/-- The words of the code in memory. -/
structure Words (w : World) (v : Value) (n : Nat) (cd : Nat → Int) : Prop where
  le : n ≤ 1000000
  wd : ∀ i, i < n → 0 ≤ cd i ∧ cd i < 4294967296
  at_ : ∃ A cap, v = .slice A n cap ∧ n ≤ cap ∧ cap ≤ maxLen ∧ (0 < n → ∃ b off, A = some ⟨b, off, none⟩ ∧ b < w.heap.size ∧ ∀ i, i < n → w.cell? ⟨b, off + i, none⟩ = some (.int .u32 (cd i)))
theorem Words.below {w w' : World} {v : Value} {n : Nat} {cd : Nat → Int} (h : Words w v n cd) (hb : Below w.heap.size w w') : Words w' v n cd := by
  obtain ⟨A, cap, h1, h2, h3, h4⟩ := h.at_
  refine ⟨h.le, h.wd, A, cap, h1, h2, h3, fun h0 => ?_⟩
  obtain ⟨b, off, ha, hlt, hc⟩ := h4 h0
  exact ⟨b, off, ha, by have := hb.size; omega, fun i hi => (hb.cell (p := ⟨b, off + i, none⟩) hlt).trans (hc i hi)⟩
/-- The instruction at an index. -/
def insAt (cd : Nat → Int) (a : Int) : Ins := (decI (cd a.toNat)).1

/-- The memory in reach. -/
structure RC (w wr : World) (eb mb : Nat) (cv ev : Value) (sh lk : Int) (nm : ByteArray) (st en da : Int) (f : Int → Option Value) : Prop where
  e1 : eb = w.heap.size + 1
  m1 : mb = w.heap.size + 2
  sz : w.heap.size + 3 ≤ wr.heap.size
  bel : Below w.heap.size w wr
  i0 : wr.heap[w.heap.size]? = some (.cells #[cv, ev, .int .i64 sh, .int .i64 lk] 25 (0, 0))
  e0 : wr.heap[eb]? = some (.cells #[.string nm, .int .i64 st, .int .i64 en, .int .i64 da] 39 (0, 0))
  map : Im wr mb f
theorem RC.below {w wr wr' : World} {eb mb : Nat} {cv ev : Value} {sh lk : Int} {nm : ByteArray} {st en da : Int} {f : Int → Option Value} (h : RC w wr eb mb cv ev sh lk nm st en da f) (hb : Below (w.heap.size + 3) wr wr') : RC w wr' eb mb cv ev sh lk nm st en da f :=
  ⟨h.e1, h.m1, by have := hb.size; have := h.sz; omega, h.bel.trans (hb.mono (by omega)), (hb.block _ (by omega)).trans h.i0, (hb.block _ (by have := h.e1; omega)).trans h.e0, h.map.keep (hb.block _ (by have := h.m1; omega))⟩
theorem RC.put {w wr wr' : World} {eb mb : Nat} {cv ev : Value} {sh lk : Int} {nm : ByteArray} {st en da : Int} {f g : Int → Option Value} (h : RC w wr eb mb cv ev sh lk nm st en da f) (hm : Im wr' mb g) (ho : wr'.os = wr.os) (ht : wr'.tape = wr.tape) (hp : wr'.output = wr.output) (hs : wr'.heap.size = wr.heap.size) (hk : ∀ i, i ≠ mb → wr'.heap[i]? = wr.heap[i]?) : RC w wr' eb mb cv ev sh lk nm st en da g :=
  ⟨h.e1, h.m1, by have := h.sz; omega, h.bel.trans ⟨ho, ht, hp, by omega, fun k hk' => hk k (by have := h.m1; omega)⟩, (hk _ (by have := h.m1; omega)).trans h.i0, (hk _ (by have := h.m1; have := h.e1; omega)).trans h.e0, hm⟩
theorem RC.cells {w wr : World} {eb mb : Nat} {cv ev : Value} {sh lk : Int} {nm : ByteArray} {st en da : Int} {f : Int → Option Value} (h : RC w wr eb mb cv ev sh lk nm st en da f) :
    wr.cell? ⟨w.heap.size, 0, none⟩ = some cv ∧ wr.cell? ⟨eb, 1, none⟩ = some (.int .i64 st) ∧ wr.cell? ⟨eb, 2, none⟩ = some (.int .i64 en) :=
  ⟨by simp [World.cell?, h.i0], by simp [World.cell?, h.e0], by simp [World.cell?, h.e0]⟩

theorem heap_alloc_at (w : World) (o : Obj) {k : Nat} (h : k = w.heap.size) : (w.alloc o).heap[k]? = some o := by rw [h]; exact heap_alloc_new w o
theorem infoI : (Tryd.prog.info? 3).map (fun i => (i.zero, i.size, i.bytes)) = some (some (.int .i64 0), 1, 8) := by kernel_rfl
theorem grown_setBlock {w w' : World} {b : Nat} (ho : w'.os = w.os) (ht : w'.tape = w.tape) (hp : w'.output = w.output) (hs : w'.heap.size = w.heap.size) (hk : ∀ i, i ≠ b → w'.heap[i]? = w.heap[i]?) : w.grownBy w' (some b) :=
  ⟨ho, ht, hp, by omega, fun k _ hne => hk k (fun e => hne (by rw [e]))⟩
theorem push_len {st en a : Int} (ha : 0 ≤ a) (l W : List Int) (bad : Int) (hb : bad = -1 ∨ 0 ≤ bad) : (l.foldl (pushI st en a) (W, bad)).1.length ≤ W.length + l.length := (push_spec (st := st) (en := en) a ha l W bad hb).2.2.2
theorem foldl_take {α β : Type} (f : β → α → β) (b : β) (l : List α) (j : Nat) (h : j < l.length) : (l.take (j + 1)).foldl f b = f ((l.take j).foldl f b) l[j] := by
  rw [List.take_add_one, List.getElem?_eq_getElem h, List.foldl_append]
  rfl
theorem ins_zero (w : World) : (zeroValue 53).run Tryd.prog w = .ok (.agg #[.int .u8 0, .int .i64 0, .int .i64 0, .int .i64 0, .int .i64 0]) w := by kernel_rfl
theorem snoc_cases {α : Type} (l : List α) : l = [] ∨ ∃ t a, l = t ++ [a] := by
  rcases List.eq_nil_or_concat l with h | ⟨t, a, h⟩
  · exact .inl h
  · exact .inr ⟨t, a, by simpa using h⟩

set_option maxHeartbeats 4000000 in
set_option maxRecDepth 20000 in
theorem reach_any (cv ev : Value) (sh lk : Int) (nm : ByteArray) (st en da : Int) (n : Nat) (cd : Nat → Int) (w : World) (T : Tab w) (HW : Words w cv n cd) (h0 : 0 ≤ st) (h1 : st < en) (h2 : en ≤ n) :
    Calls Tryd.prog 36 #[.agg #[cv, ev, .int .i64 sh, .int .i64 lk], .agg #[.string nm, .int .i64 st, .int .i64 en, .int .i64 da]] w fun e w' => ∃ D bad mb, e = .returned (.tuple #[.map (some mb), .int .i64 bad]) ∧ w.heap.size ≤ mb ∧ RInv (insAt cd) st en D [] bad ∧ Im w' mb (fnd (insAt cd) D) ∧ Below w.heap.size w w' := by
  have hn := HW.le
  obtain ⟨A, cap, rfl, hc1, hc2, hrd⟩ := HW.at_
  obtain ⟨b, off, rfl, hb, hcell⟩ := hrd (by omega)
  have HWd := Lib.hid HW.wd
  have HCell := Lib.hid hcell
  have HT := Lib.hid T
  clear HW hrd hcell T
  obtain ⟨i0, hi0, hz0, hz1, hz2⟩ := info_parts infoI
  have mk := fun W : World => (show (Instr.makeMap 88 none).run Tryd.prog W = .ok (.map (some W.heap.size)) (W.alloc (.map #[] 0)) from rfl)
  go_enter Tryd.func36, Tryd.ntmps36
  go_upto_region 4 with fail
  obtain ⟨V, hV⟩ : ∃ V, (((w.alloc (.cells #[.slice (some ⟨b, off, none⟩) n cap, ev, .int .i64 sh, .int .i64 lk] 25)).alloc (.cells #[.string nm, .int .i64 st, .int .i64 en, .int .i64 da] 39)).alloc (.map #[] 0)).alloc (.cells #[.int .i64 st] 3) = V := ⟨_, rfl⟩
  have hr0 : RC w V (w.heap.size + 1) (w.heap.size + 1 + 1) (.slice (some ⟨b, off, none⟩) n cap) ev sh lk nm st en da (fnd (insAt cd) []) := by
    subst hV
    refine ⟨rfl, rfl, by simp, ?_, ?_, ?_, ?_⟩
    · exact ((((Below.refl _ _).alloc (Nat.le_refl _) _).alloc (by simp) _).alloc (by simp; omega) _).alloc (by simp; omega) _
    · rw [heap_alloc_old _ _ (by simp; omega), heap_alloc_old _ _ (by simp; omega), heap_alloc_old _ _ (by simp)]
      exact heap_alloc_new _ _
    · rw [heap_alloc_old _ _ (by simp; try omega), heap_alloc_old _ _ (by simp)]
      exact heap_alloc_at _ _ (by simp)
    · rw [fnd_nil]
      have e : w.heap.size + 1 + 1 = ((w.alloc (.cells #[.slice (some ⟨b, off, none⟩) n cap, ev, .int .i64 sh, .int .i64 lk] 25)).alloc (.cells #[.string nm, .int .i64 st, .int .i64 en, .int .i64 da] 39)).heap.size := by simp
      rw [e]
      exact (Im.made _).keep (heap_alloc_old _ _ (by simp))
  have hw0 : V.ownsRow (w.heap.size + 3) 3 1 (.slice (some ⟨w.heap.size + 1 + 1 + 1, 0, none⟩) 1 1) 1 (ivs [st]) := by
    subst hV
    refine ⟨rfl, .inr ⟨w.heap.size + 3, 1, #[.int .i64 st], rfl, Nat.le_refl _, ?_, Nat.le_refl _, by unfold maxLen; omega, rfl, rfl⟩⟩
    exact heap_alloc_at _ _ (by simp)
  rw [hV]
  obtain ⟨eb, heb⟩ : ∃ eb, w.heap.size + 1 = eb := ⟨_, rfl⟩
  rw [heb] at hr0 hw0 ⊢
  obtain ⟨mb, hmb⟩ : ∃ mb, eb + 1 = mb := ⟨_, rfl⟩
  rw [hmb] at hr0 hw0 ⊢
  have HR0 := Lib.hid hr0
  have HW0 := Lib.hid hw0
  clear hV hr0 hw0
  have HI0 := Lib.hid (RInv.first (c := insAt cd) (st := st) (en := en))
  go_loopg [7, 8, 9, 10, 11, 12, 13, 15] (3 * (en - st).toNat + 1) (fun gk a7 a8 a9 a10 a11 a12 a13 a15 wr => ∃ (D W : List Int) (bad : Int), a7 = .int .i64 bad ∧ gk ≤ 3 * (en - st).toNat + 1 ∧ 3 * D.length + gk = 3 * (en - st).toNat + W.length ∧ RInv (insAt cd) st en D W bad ∧ wr.ownsRow (w.heap.size + 3) 3 1 a8 W.length (ivs W) ∧ RC w wr eb mb (.slice (some ⟨b, off, none⟩) n cap) ev sh lk nm st en da (fnd (insAt cd) D))
  case atStart => exact ⟨[], [st], -1, rfl, Nat.le_refl _, by simp, HI0.out, HW0.out, HR0.out⟩
  case round =>
    obtain ⟨D, W, bad, rfl, hgk0, hgk, hI, hown, hC⟩ := hrel
    have HI := Lib.hid hI
    have HO := Lib.hid hown
    have HC := Lib.hid hC
    clear hI hown HI0 HW0 HR0
    obtain ⟨c0, c1, c2⟩ := hC.cells
    have csz := hC.sz
    clear hC
    rcases snoc_cases W with rfl | ⟨W, at_, rfl⟩
    · have hv : ∃ A cap', u8 = .slice A 0 cap' := by
        rcases HO.out.2 with ⟨h, _⟩ | ⟨g, cap', cur, h, _⟩
        · exact ⟨_, _, h⟩
        · exact ⟨_, _, h⟩
      obtain ⟨A, cap', rfl⟩ := hv
      go_wp2_with fail
      go_ret2
      exact ⟨D, bad, mb, rfl, by omega, HI.out, HC.out.map, HC.out.bel⟩
    · have hat := (HI.out.wr at_ (by simp)).range _ _ _ h1
      obtain ⟨k, rfl⟩ : ∃ k : Nat, at_ = (k : Int) := ⟨at_.toNat, by omega⟩
      have hkn : k < n := by omega
      obtain ⟨g, cap', hv, hg3, hgs, hown', hcl⟩ : ∃ g cap', u8 = .slice (some ⟨g, 0, none⟩) (W.length + 1) cap' ∧ w.heap.size + 3 ≤ g ∧ (g < wr.heap.size ∧ W.length + 1 ≤ cap' ∧ cap' ≤ maxLen) ∧ wr.ownsRow (w.heap.size + 3) 3 1 (.slice (some ⟨g, 0, none⟩) W.length cap') W.length (ivs W) ∧ wr.cell? ⟨g, W.length, none⟩ = some (.int .i64 (k : Int)) := by
        have h := HO.out
        have e1 : ivs (W ++ [(k : Int)]) = ivs W ++ [.int .i64 (k : Int)] := by simp [ivs]
        have e2 : (W ++ [(k : Int)]).length = W.length + 1 := by simp
        rw [e1, e2] at h
        rcases h.2 with ⟨_, hz⟩ | ⟨g, cap', cur, hv, hg, hgs, hcap, hmax, hs1, hs2⟩
        · omega
        · subst hv
          refine ⟨g, cap', rfl, hg, ⟨(Array.getElem?_eq_some_iff.1 hgs).1, hcap, hmax⟩, ownsRow_pop (by simp [ivs]) h, ?_⟩
          rw [h.cellAt W.length (by omega)]
          simp [ivs]
      subst hv
      have HO' := Lib.hid hown'
      unfold maxLen at hgs
      clear hown' HO
      have hbr : b < wr.heap.size := by have := HC.out.bel.size; omega
      have x1 : wr.cell? ⟨b, off + k, none⟩ = some (.int .u32 (cd k)) := by rw [HC.out.bel.cell (p := ⟨b, off + k, none⟩) hb]; exact HCell.out k hkn
      obtain ⟨i, hi⟩ : ∃ i, insAt cd k = i := ⟨_, rfl⟩
      have hdi : (decI (cd k)).1 = i := by rw [← hi]; simp [insAt]
      have him := decI_imm (cd k) (HWd.out k hkn).1
      rw [hdi] at him
      have hcnt := HI.out.count h1
      have hgk' : 3 * D.length + gk = 3 * (en - st).toNat + (W.length + 1) := by simpa using hgk
      clear hgk
      by_cases hD : (k : Int) ∈ D
      · have l1 := HC.out.map.look_some (P := Tryd.prog) (kt := 3) (t := 88) (e := 53) Tryd.underlying3 Tryd.underlying88 (k := (k : Int)) (v := i.val) (by unfold fnd; rw [if_pos hD, hi]) true
        simp only [↓reduceIte, Ins.val, kv] at l1
        have HG := Lib.hid (And.intro hgk' hcnt)
        clear hcnt hgk' him hdi x1 hat hkn
        go_wp2_with fail
        go_roundg (gk - 1)
        case measure => obtain ⟨hq1, hq2⟩ := HG.out; omega
        case rel =>
          refine ⟨D, W, bad, rfl, by omega, by obtain ⟨hq1, hq2⟩ := HG.out; omega, HI.out.skip hD, ownsRow_below HO'.out ((Below.refl _ _).alloc (Nat.le_refl _) _), HC.out.below ((Below.refl _ _).alloc csz _)⟩
      · have l1 := HC.out.map.look_none (P := Tryd.prog) (kt := 3) (t := 88) (e := 53) Tryd.underlying3 Tryd.underlying88 (ins_zero wr) (k := (k : Int)) (kwf_of (by omega) (by omega)) (by unfold fnd; rw [if_neg hD]) true
        simp only [↓reduceIte, kv] at l1
        have hWl : W.length ≤ 6000000 := by omega
        have HG := Lib.hid (And.intro hgk' hcnt)
        have HPI := Lib.hid (HI.out.push hD h0 h1)
        have HCT := Lib.hid (HPI.out.count h1)
        rw [hi] at HPI
        have HDE := Lib.hid (fun (W : World) (hW : Below w.heap.size w W) => decode_any (cd k) (HWd.out k hkn).1 (HWd.out k hkn).2 W (HT.out.below hW))
        obtain ⟨er, her⟩ : ∃ er, (decI (cd k)).2 = er := ⟨_, rfl⟩
        simp only [hdi, her, Ins.val] at HDE
        obtain ⟨op, ia, ib, ic, imm⟩ := i
        simp only at HDE him
        clear hcnt hgk' hdi her
        go_upto_region 9 with fail
        obtain ⟨V1, hV1⟩ : ∃ V1, wr.alloc (.cells #[.int .u8 0, .int .i64 0, .int .i64 0, .int .i64 0, .int .i64 0] 53) = V1 := ⟨_, rfl⟩
        have b1 : Below wr.heap.size wr V1 := hV1 ▸ (Below.refl _ _).alloc (Nat.le_refl _) _
        rw [hV1]
        clear hV1
        have z1 : V1.cell? ⟨b, off + k, none⟩ = some (.int .u32 (cd k)) := by rw [b1.cell (p := ⟨b, off + k, none⟩) hbr]; exact x1
        have z2 : V1.cell? ⟨w.heap.size, 0, none⟩ = some (.slice (some ⟨b, off, none⟩) n cap) := by rw [b1.cell (p := ⟨w.heap.size, 0, none⟩) (by show w.heap.size < _; omega)]; exact c0
        have HD1 := Lib.hid (HDE.out V1 (HC.out.bel.trans (b1.mono (by omega))))
        have B1 := Lib.hid b1
        clear b1 x1 l1 c0
        go_upto_region 10 with (go_at_call 23; refine (Calls.ext HD1.out).mono ?_; rintro e w' ⟨rfl, y, rfl⟩)
        have b2 : Below wr.heap.size wr (y.w.alloc (.cells #[.int .u8 op, .int .i64 ia, .int .i64 ib, .int .i64 ic, .int .i64 imm] 53)) := (Ext.below B1.out B1.out.size y).alloc (Nat.le_trans B1.out.size y.h.size) _
        have k2 := heap_alloc_new y.w (.cells #[.int .u8 op, .int .i64 ia, .int .i64 ib, .int .i64 ic, .int .i64 imm] 53)
        have k3 : wr.heap.size ≤ y.w.heap.size := Nat.le_trans B1.out.size y.h.size
        obtain ⟨V2, hV2⟩ : ∃ V2, y.w.alloc (.cells #[.int .u8 op, .int .i64 ia, .int .i64 ib, .int .i64 ic, .int .i64 imm] 53) = V2 := ⟨_, rfl⟩
        rw [hV2] at b2 k2 ⊢
        obtain ⟨q, hq⟩ : ∃ q, y.w.heap.size = q := ⟨_, rfl⟩
        rw [hq] at k2 k3 ⊢
        clear hV2 hq y z1 z2 HD1 B1
        have C2 := Lib.hid (HC.out.below (b2.mono csz))
        obtain ⟨V3, l2, m3, o1, o2, o3, o4, o5⟩ := C2.out.map.put (P := Tryd.prog) (kt := 3) (t := 88) (e := 53) Tryd.underlying3 Tryd.underlying88 (k := (k : Int)) (kwf_of (by omega) (by omega)) (.agg #[.int .u8 op, .int .i64 ia, .int .i64 ib, .int .i64 ic, .int .i64 imm])
        simp only [kv] at l2
        have hupd := fnd_cons (insAt cd) D (k : Int)
        rw [hi] at hupd
        simp only [Ins.val] at hupd
        rw [hupd] at m3
        have C3 := Lib.hid (C2.out.put m3 o1 o2 o3 o4 o5)
        have hmq : q ≠ mb := by omega
        have own3 := Lib.hid ((ownsRow_below HO'.out b2).kept (grown_setBlock o1 o2 o3 o4 o5) (.inr (by simp [Value.ownBlock]; omega)))
        have y20 : V2.cell? ⟨q, 0, none⟩ = some (.int .u8 op) := by simp [World.cell?, k2]
        have y21 : V2.cell? ⟨q, 1, none⟩ = some (.int .i64 ia) := by simp [World.cell?, k2]
        have y22 : V2.cell? ⟨q, 2, none⟩ = some (.int .i64 ib) := by simp [World.cell?, k2]
        have y23 : V2.cell? ⟨q, 3, none⟩ = some (.int .i64 ic) := by simp [World.cell?, k2]
        have y24 : V2.cell? ⟨q, 4, none⟩ = some (.int .i64 imm) := by simp [World.cell?, k2]
        have k2' := (o5 q hmq).trans k2
        have y30 : V3.cell? ⟨q, 0, none⟩ = some (.int .u8 op) := by simp [World.cell?, k2']
        have y31 : V3.cell? ⟨q, 1, none⟩ = some (.int .i64 ia) := by simp [World.cell?, k2']
        have y32 : V3.cell? ⟨q, 2, none⟩ = some (.int .i64 ib) := by simp [World.cell?, k2']
        have y33 : V3.cell? ⟨q, 3, none⟩ = some (.int .i64 ic) := by simp [World.cell?, k2']
        have y34 : V3.cell? ⟨q, 4, none⟩ = some (.int .i64 imm) := by simp [World.cell?, k2']
        have HSC := Lib.hid (successors_any ⟨op, ia, ib, ic, imm⟩ (k : Int) V3 (by omega) (by omega) (by simp only; omega) (by simp only; omega))
        have s3 : g < V3.heap.size := by have := b2.size; omega
        clear k2 k2' o1 o2 o3 o5 m3 b2 hupd HO'
        simp only at HSC
        go_upto_region 12 with (go_at_call 38; refine HSC.out.mono ?_; rintro e W4 ⟨⟨v, rfl, ⟨SA, scap, rfl, sc1, sc2, sc3⟩, sc4⟩, hb4⟩)
        obtain ⟨L, hL⟩ : ∃ L, succI ⟨op, ia, ib, ic, imm⟩ (k : Int) = L := ⟨_, rfl⟩
        have hL2 : L.length ≤ 2 := hL ▸ succI_len _ _
        rw [hL] at HPI sc1 sc3 sc4 ⊢
        have hwb : bad = -1 ∨ 0 ≤ bad := by
          rcases HI.out.b with q1 | q1
          · exact .inl q1.1
          · have := (HI.out.dr bad q1.1).range _ _ _ h1
            omega
        have hpl := push_len (st := st) (en := en) (a := (k : Int)) (by omega) L W bad hwb
        have HE := Lib.hid (show (3 * ((k : Int) :: D).length + (3 * (en - st).toNat + (L.foldl (pushI st en k) (W, bad)).1.length - 3 * (D.length + 1)) = 3 * (en - st).toNat + (L.foldl (pushI st en k) (W, bad)).1.length) ∧ 3 * (en - st).toNat + (L.foldl (pushI st en k) (W, bad)).1.length - 3 * (D.length + 1) < gk by
          have e1 := HG.out
          have e2 := HCT.out
          simp only [List.length_cons] at e2 ⊢
          omega)
        have HPL := Lib.hid (show ∀ j, ((L.take j).foldl (pushI st en k) (W, bad)).1.length ≤ W.length + 2 from fun j => by
          have := push_len (st := st) (en := en) (a := (k : Int)) (by omega) (L.take j) W bad hwb
          have e : (L.take j).length ≤ L.length := by simp; omega
          omega)
        have C4 := Lib.hid (C3.out.below (hb4.mono (by have := C3.out.sz; omega)))
        have own4 := Lib.hid (ownsRow_below own3.out hb4)
        have I4 := Lib.hid (show Ints W4 (.slice SA L.length scap) L from ⟨SA, scap, rfl, sc1, sc2, sc3⟩)
        have dj : ∀ q, (Value.slice (some ⟨g, 0, none⟩) W.length cap').ownBlock = some q → (Value.slice SA L.length scap).ownBlock ≠ some q := fun q hq hq2 => by
          have := sc4 q hq2
          simp [Value.ownBlock] at hq
          omega
        have DJ := Lib.hid dj
        have s4 := hb4.size
        clear hL sc1 sc2 sc3 sc4 hpl hwb HG HCT dj hb4 C3 own3 C2 l2 y20 y21 y22 y23 y24 y30 y31 y32 y33 y34 HSC HDE HI hcl c1 c2 him hi hmq o4 s3 k3 HC
        obtain ⟨wo, rfl⟩ : ∃ wo : World, wo = wr := ⟨_, rfl⟩
        go_loopw [7, 8, 15, 57] (fun a7 a8 a15 a57 wr => ∃ j : Nat, j ≤ L.length ∧ a57 = .int .i64 (j : Int) ∧ a7 = .int .i64 ((L.take j).foldl (pushI st en k) (W, bad)).2 ∧ wr.ownsRow (w.heap.size + 3) 3 1 a8 ((L.take j).foldl (pushI st en k) (W, bad)).1.length (ivs ((L.take j).foldl (pushI st en k) (W, bad)).1) ∧ RC w wr eb mb (.slice (some ⟨b, off, none⟩) n cap) ev sh lk nm st en da (fnd (insAt cd) ((k : Int) :: D)) ∧ Ints wr (.slice SA L.length scap) L ∧ ∀ q, a8.ownBlock = some q → (Value.slice SA L.length scap).ownBlock ≠ some q) (fun _ _ _ a57 _ => L.length - (intOf a57).toNat)
        case atStart => exact ⟨0, Nat.zero_le _, rfl, rfl, own4.out, C4.out, I4.out, DJ.out⟩
        case round =>
          obtain ⟨j, hj, rfl, rfl, hown, hC, hI, hdj⟩ := hrel
          clear C4 own4 I4 DJ
          obtain ⟨c0, c1, c2⟩ := hC.cells
          have csz' := hC.sz
          have HO := Lib.hid hown
          have HC := Lib.hid hC
          have HI := Lib.hid hI
          have HJ := Lib.hid hdj
          clear hown hC hI hdj
          by_cases hlt : j < L.length
          · have ft := foldl_take (pushI st en k) (W, bad) L j hlt
            have HF := Lib.hid ft
            clear ft
            have hpj := HPL.out j
            obtain ⟨⟨Wj, bj⟩, hWj⟩ : ∃ p, (L.take j).foldl (pushI st en k) (W, bad) = p := ⟨_, rfl⟩
            rw [hWj] at HF HO hpj ⊢
            simp only at HO hpj ⊢
            obtain ⟨A', cap2, hv, i1, i2, i3⟩ := HI.out
            cases hv
            obtain ⟨sb, so, rfl, hsb, hsc⟩ := i3 (by omega)
            obtain ⟨s, hs⟩ : ∃ s, L[j] = s := ⟨_, rfl⟩
            have x1 : wr.cell? ⟨sb, so + j, none⟩ = some (.int .i64 s) := by rw [hsc j hlt, ← hs]; simp [List.getD, List.getElem?_eq_getElem hlt]
            rw [hs] at HF
            have dl : decide ((j : Int) < (L.length : Int)) = true := by simpa using hlt
            unfold maxLen at i2
            clear hsc i3 hs
            by_cases hin : st ≤ s ∧ s < en
            · have d1 : decide (st ≤ s) = true := decide_eq_true hin.1
              have d2 : decide (s < en) = true := decide_eq_true hin.2
              have HP := Lib.hid (show pushI st en k (Wj, bj) s = (Wj ++ [s], bj) by unfold pushI; rw [if_pos hin])
              clear hin
              go_wp2_with (at_builtin; refine wpList_append_own_at _ rfl (.tmp 71) (.tmp 73) 49 rfl (w.heap.size + 3) 3 i0 (.int .i64 0) 1 8 Tryd.underlying49 hi0 hz0 hz1 hz2 rfl (by decide) u8 _ _ rfl (HO.out.alloc _) ⟨wr.heap.size, 0, none⟩ 1 1 [.int .i64 s] rfl rfl (cell_one_new _ _ _) (by simp [Value.oneCell']) (by unfold maxLen; omega) (by omega) (by rw [World.size_alloc]; omega) ?_; intro v' W' hown' hgrow _ hob)
              have eF := HF.out.trans HP.out
              have bA := (Below.refl wr.heap.size wr).alloc (Nat.le_refl _) (.cells #[.int .i64 s] 3)
              have bG : Below (w.heap.size + 3) wr W' := ((Below.refl _ _).alloc csz' _).grown hgrow (by rw [World.size_alloc]; omega) (fun q hq => (HO.out.lt q hq).1)
              go_roundw
              case rel =>
                refine ⟨j + 1, by omega, by go_num, by rw [eF], ?_, HC.out.below bG, (HI.out.below bA).grown hgrow (fun q hq hq2 => HJ.out q hq2 hq), fun q hq => ?_⟩
                · rw [eF]
                  simpa [ivs] using hown'
                · rcases hob with h | h
                  · rw [h] at hq; exact HJ.out q hq
                  · rw [h, World.size_alloc] at hq
                    cases hq
                    intro h2
                    simp [Value.ownBlock] at h2
                    omega
              case measure => simp [intOf]; omega
            · have HP := Lib.hid (show pushI st en k (Wj, bj) s = (Wj, if bj < 0 ∨ (k : Int) < bj then (k : Int) else bj) by unfold pushI; rw [if_neg hin])
              have eF := Lib.hid (HF.out.trans HP.out)
              go_wp2_with fail
              all_goals
                go_roundw
                case rel =>
                  refine ⟨j + 1, by omega, by go_num, ?_, ?_, HC.out, HI.out, HJ.out⟩
                  · rw [eF.out]
                    first
                      | (rw [if_pos (by omega)]; done)
                      | (rw [if_neg (by omega)]; done)
                  · rw [eF.out]; exact HO.out
                case measure => simp [intOf]; omega
          · obtain rfl : j = L.length := by omega
            have dl : decide ((L.length : Int) < (L.length : Int)) = false := by simp
            rw [List.take_length] at HO ⊢
            go_wp2_with fail
            go_roundg (3 * (en - st).toNat + (L.foldl (pushI st en k) (W, bad)).1.length - 3 * (D.length + 1))
            case measure => exact HE.out.2
            case rel => exact ⟨(k : Int) :: D, _, _, rfl, by have := HE.out.2; omega, HE.out.1, HPI.out, HO.out, HC.out⟩

end Go.Proofs.YtfceodpdipniaaaDoor
