/-
  What is proved here: CfgAlone returns true for every image, task and word, and changes nothing of its input.
-/
import Derived.Test.YtfceodpdipniaaaDoorCgOut
import Derived.Test.YtfceodpdipniaaaDoorCgIs
import Derived.Test.YtfceodpdipniaaaDoorCgOpen2
import Derived.Test.YtfceodpdipniaaaDoorAppRow
import Derived.Deep.RegionWith
import Derived.Test.YtfceodpdipniaaaDoorLawSound
namespace Go.Proofs.YtfceodpdipniaaaDoor
open Go.RowKit
set_option linter.unusedVariables false
set_option linter.unusedSimpArgs false

theorem enc_halt : encI ⟨1, 0, 0, 0, 0⟩ = (67108864, 0) := by decide +kernel
theorem infoU : (Tryd.prog.info? 56).map (fun i => (i.zero, i.size, i.bytes)) = some (some (.int .u32 0), 1, 4) := by kernel_rfl
theorem addAt (b off j : Nat) : (⟨b, off, none⟩ : Addr).add j = ⟨b, off + j, none⟩ := by cases j <;> simp [Addr.add]
theorem uvs_one (l : List Int) : ∀ u ∈ uvs l, u.oneCell' = true := by
  intro u hu
  unfold uvs at hu
  obtain ⟨x, _, rfl⟩ := List.mem_map.1 hu
  rfl
theorem own_at {w : World} {B n size : Nat} {e : TypeId} {v : Value} {xs : List Value} (h : w.ownsRow B e size v n xs) (hx : 0 < n) : ∃ g cap, v = .slice (some ⟨g, 0, none⟩) n cap ∧ B ≤ g := by
  have hl := h.lt
  rcases h.2 with ⟨rfl, h0⟩ | ⟨g, cap, cur, rfl, hb, _⟩
  · omega
  · exact ⟨g, cap, rfl, (hl g rfl).1⟩
/-- The words of a code that is changed outside of a range. -/
structure Alt (n : Nat) (cd : Nat → Int) (st en : Int) (ws : List Int) : Prop where
  len : ws.length = n
  wd : ∀ x ∈ ws, 0 ≤ x ∧ x < 4294967296
  same : ∀ j : Nat, st ≤ (j : Int) → (j : Int) < en → j < n → ws.getD j 0 = cd j
theorem Alt.first {n : Nat} {cd : Nat → Int} (st en : Int) (h : ∀ i, i < n → 0 ≤ cd i ∧ cd i < 4294967296) : Alt n cd st en ((List.range n).map cd) := by
  refine ⟨by simp, fun x hx => ?_, fun j _ _ hj => ?_⟩
  · obtain ⟨i, hi, rfl⟩ := List.mem_map.1 hx
    exact h i (List.mem_range.1 hi)
  · simp [List.getD, List.getElem?_range hj]
theorem Alt.set {n : Nat} {cd : Nat → Int} {st en : Int} {ws : List Int} (h : Alt n cd st en ws) {k : Nat} (hk : (k : Int) < st ∨ en ≤ (k : Int)) {x : Int} (hx : 0 ≤ x ∧ x < 4294967296) : Alt n cd st en (ws.set k x) := by
  refine ⟨by simp [h.len], fun y hy => ?_, fun j h1 h2 h3 => ?_⟩
  · rcases List.mem_or_eq_of_mem_set hy with h1 | rfl
    · exact h.wd y h1
    · exact hx
  · have hne : k ≠ j := by omega
    rw [← h.same j h1 h2 h3]
    simp [List.getD, List.getElem?_set_ne hne]
theorem uvs_set (ws : List Int) (k : Nat) (x : Int) : (uvs ws).set k (.int .u32 x) = uvs (ws.set k x) := by
  unfold uvs
  rw [List.map_set]
theorem alt_ins {n : Nat} {cd : Nat → Int} {st en : Int} {ws : List Int} (h : Alt n cd st en ws) (h0 : 0 ≤ st) (hen : en ≤ n) (a : Int) (h1 : st ≤ a) (h2 : a < en) : insAt cd a = insAt (fun i => ws.getD i 0) a := by
  unfold insAt
  have := h.same a.toNat (by omega) (by omega) (by omega)
  simp only [this]

set_option maxHeartbeats 4000000 in
set_option maxRecDepth 20000 in
theorem alone_any (cv ev : Value) (sh lk : Int) (n : Nat) (cd : Nat → Int) (ents : List Ent) (task oth : Int) (ho1 : 0 ≤ oth) (ho2 : oth < 4294967296) (w : World) (T : Tab w) (HW : WordsN w cv n cd) (HE : Ents w ev ents) :
    Calls Tryd.prog 6 #[.agg #[cv, ev, .int .i64 sh, .int .i64 lk], .int .i64 task, .int .u32 oth] w fun e w' => e = .returned (.bool true) ∧ Below w.heap.size w w' := by
  obtain ⟨A, cap, hcv, hc1, hc2, -⟩ := HW.at_
  obtain ⟨EA, ecap, hev, he1, he2, -⟩ := HE.at_
  have h63 : ents.length ≤ 2 ^ 63 - 1 := by unfold maxLen at he2; omega
  have HWH := Lib.hid HW
  have HEH := Lib.hid HE
  have HT := Lib.hid T
  clear HW HE T
  subst hcv hev
  obtain ⟨V0, hV0⟩ : ∃ V0, w.alloc (.cells #[.slice A n cap, .slice EA ents.length ecap, .int .i64 sh, .int .i64 lk] 25) = V0 := ⟨_, rfl⟩
  have b0 : Below w.heap.size w V0 := hV0 ▸ (Below.refl _ _).alloc (Nat.le_refl _) _
  have s0 : w.heap.size < V0.heap.size := by rw [← hV0]; simp
  have k0 : V0.heap[w.heap.size]? = some (.cells #[.slice A n cap, .slice EA ents.length ecap, .int .i64 sh, .int .i64 lk] 25) := by rw [← hV0]; exact heap_alloc_new _ _
  have y0 : V0.cell? ⟨w.heap.size, 0, none⟩ = some (.slice A n cap) := by simp [World.cell?, k0]
  have y1 : V0.cell? ⟨w.heap.size, 1, none⟩ = some (.slice EA ents.length ecap) := by simp [World.cell?, k0]
  have y2 : V0.cell? ⟨w.heap.size, 2, none⟩ = some (.int .i64 sh) := by simp [World.cell?, k0]
  have y3 : V0.cell? ⟨w.heap.size, 3, none⟩ = some (.int .i64 lk) := by simp [World.cell?, k0]
  have B0 := Lib.hid b0
  have HAW := Lib.hid (Calls.ext (awake_any V0 (HT.out.below b0)))
  clear k0 b0
  go_enter Tryd.func6, Tryd.ntmps6
  go_upto_region 1 with fail
  clear hV0
  have HGR := Lib.hid (show ∀ y : Ext V0, Calls Tryd.prog 11 #[.agg #[.slice A n cap, .slice EA ents.length ecap, .int .i64 sh, .int .i64 lk]] y.w fun e w' => e = .returned (.int .i64 (greatI n ents)) ∧ ∃ z : Ext V0, z.w = w' from fun y => (great_any _ _ sh lk n cd ents y.w (HWH.out.below (Ext.below B0.out B0.out.size y)) (HEH.out.below (Ext.below B0.out B0.out.size y))).mono fun e w' ⟨h1, h2⟩ => ⟨h1, ⟨w', y.h.trans (h2.mono y.h.size)⟩, rfl⟩)
  by_cases hgt : 300 < n ∨ 4 < ents.length
  case pos =>
    have hg1 : greatI n ents = 1 := by unfold greatI; rw [if_pos hgt]
    rw [hg1] at HGR
    clear hgt hg1
    go_wp2_with (first | (go_at_call 10; refine HAW.out.mono ?_; rintro e w' ⟨rfl, y, rfl⟩) | (go_at_call 11; refine (HGR.out _).mono ?_; rintro e w' ⟨rfl, z, rfl⟩))
    go_ret
    exact ⟨rfl, Ext.below B0.out B0.out.size z⟩
  have hg0 : greatI n ents = 0 := by unfold greatI; rw [if_neg hgt]
  rw [hg0] at HGR
  have hn3 : n ≤ 300 := by omega
  have he4 : ents.length ≤ 4 := by omega
  clear hgt hg0
  by_cases ht : task < 0 ∨ (ents.length : Int) ≤ task
  case pos =>
    by_cases h0 : task < 0
    · have d0 : decide (task < 0) = true := decide_eq_true h0
      clear ht h0
      go_wp2_with (first | (go_at_call 10; refine HAW.out.mono ?_; rintro e w' ⟨rfl, y, rfl⟩) | (go_at_call 11; refine (HGR.out _).mono ?_; rintro e w' ⟨rfl, z, rfl⟩))
      go_ret
      exact ⟨rfl, Ext.below B0.out B0.out.size z⟩
    · have d0 : decide (task < 0) = false := decide_eq_false h0
      have d1 : decide ((ents.length : Int) ≤ task) = true := decide_eq_true (by omega)
      clear ht h0
      go_wp2_with (first | (go_at_call 10; refine HAW.out.mono ?_; rintro e w' ⟨rfl, y, rfl⟩) | (go_at_call 11; refine (HGR.out _).mono ?_; rintro e w' ⟨rfl, z, rfl⟩))
      go_ret
      exact ⟨rfl, Ext.below B0.out B0.out.size z⟩
  obtain ⟨k, rfl⟩ : ∃ k : Nat, task = (k : Int) := ⟨task.toNat, by omega⟩
  have hk : k < ents.length := by omega
  have d0 : decide ((k : Int) < 0) = false := decide_eq_false (by omega)
  have d1 : decide ((ents.length : Int) ≤ (k : Int)) = false := decide_eq_false (by omega)
  clear ht
  have HCK := Lib.hid (show ∀ z : Ext V0, _ from fun z : Ext V0 => check_any (.slice A n cap) (.slice EA ents.length ecap) sh lk n cd ents z.w (HT.out.below (Ext.below B0.out B0.out.size z)) ((HWH.out.below (Ext.below B0.out B0.out.size z)).words (by omega)) (HEH.out.below (Ext.below B0.out B0.out.size z)))
  by_cases hg : GoodI n cd ents sh lk
  case neg =>
    have HC := Lib.hid (show ∀ z : Ext V0, Calls Tryd.prog 13 #[.agg #[.slice A n cap, .slice EA ents.length ecap, .int .i64 sh, .int .i64 lk]] z.w fun e w' => ∃ r, e = .returned (.int .i64 r) ∧ (r != 0) = true ∧ ∃ y : Ext V0, y.w = w' from fun z => (HCK.out z).mono fun e w' ⟨⟨r, h1, h2⟩, h3⟩ => ⟨r, h1, by simp; intro h; exact hg (h2.1 h), ⟨w', z.h.trans (h3.mono z.h.size)⟩, rfl⟩)
    clear HCK hg
    go_wp2_with (first | (go_at_call 10; refine HAW.out.mono ?_; rintro e w' ⟨rfl, y, rfl⟩) | (go_at_call 11; refine (HGR.out _).mono ?_; rintro e w' ⟨rfl, z, rfl⟩) | (go_at_call 13; refine (HC.out _).mono ?_; rintro e w' ⟨r, rfl, dr, u, rfl⟩))
    go_ret
    exact ⟨rfl, Ext.below B0.out B0.out.size u⟩
  have HC := Lib.hid (show ∀ z : Ext V0, Calls Tryd.prog 13 #[.agg #[.slice A n cap, .slice EA ents.length ecap, .int .i64 sh, .int .i64 lk]] z.w fun e w' => e = .returned (.int .i64 0) ∧ ∃ y : Ext V0, y.w = w' from fun z => (HCK.out z).mono fun e w' ⟨⟨r, h1, h2⟩, h3⟩ => ⟨by rw [h1, h2.2 hg], ⟨w', z.h.trans (h3.mono z.h.size)⟩, rfl⟩)
  have HGd := Lib.hid hg
  clear HCK hg
  go_upto_region 5 with (first | (go_at_call 10; refine HAW.out.mono ?_; rintro e w' ⟨rfl, y, rfl⟩) | (go_at_call 11; refine (HGR.out _).mono ?_; rintro e w' ⟨rfl, z, rfl⟩) | (go_at_call 13; refine (HC.out _).mono ?_; rintro e w' ⟨rfl, u, rfl⟩))
  have BU := Lib.hid (Ext.below B0.out B0.out.size u)
  have hbu := u.h
  obtain ⟨e, eb, eoff, he, rfl, hbl, c0, c1, c2, c3⟩ := HEH.out.cells BU.out hk
  have hem := List.mem_of_getElem? he
  obtain ⟨g1, g2, g3⟩ := HGd.out.ch.bounds e hem
  obtain ⟨U, hU⟩ : ∃ U, u.w = U := ⟨_, rfl⟩
  rw [hU] at hbu c0 c1 c2 c3 BU ⊢
  have su := hbu.size
  have x0 : U.cell? ⟨w.heap.size, 0, none⟩ = some (.slice A n cap) := by rw [hbu.cell (p := ⟨w.heap.size, 0, none⟩) s0]; exact y0
  have x1 : U.cell? ⟨w.heap.size, 1, none⟩ = some (.slice (some ⟨eb, eoff, none⟩) ents.length ecap) := by rw [hbu.cell (p := ⟨w.heap.size, 1, none⟩) s0]; exact y1
  have x2 : U.cell? ⟨w.heap.size, 2, none⟩ = some (.int .i64 sh) := by rw [hbu.cell (p := ⟨w.heap.size, 2, none⟩) s0]; exact y2
  have x3 : U.cell? ⟨w.heap.size, 3, none⟩ = some (.int .i64 lk) := by rw [hbu.cell (p := ⟨w.heap.size, 3, none⟩) s0]; exact y3
  have HEN := Lib.hid he
  have swU : w.heap.size < U.heap.size := by omega
  have sebU : eb < U.heap.size := by omega
  clear hU y0 y1 y2 y3 HC HGR HAW z hbu he hem B0 u
  obtain ⟨X, hX⟩ : ∃ X, (U.alloc (.cells #[.string e.nm, .int .i64 e.st, .int .i64 e.en, .int .i64 e.da] 39)).alloc (.cells #[.slice A n cap, .slice (some ⟨eb, eoff, none⟩) ents.length ecap, .int .i64 sh, .int .i64 lk] 25) = X := ⟨_, rfl⟩
  have kX0 : X.heap[U.heap.size]? = some (.cells #[.string e.nm, .int .i64 e.st, .int .i64 e.en, .int .i64 e.da] 39) := by rw [← hX, heap_alloc_old _ _ (by simp)]; exact heap_alloc_new _ _
  have kX1 : X.heap[U.heap.size + 1]? = some (.cells #[.slice A n cap, .slice (some ⟨eb, eoff, none⟩) ents.length ecap, .int .i64 sh, .int .i64 lk] 25) := by rw [← hX]; exact heap_alloc_at _ _ (by simp)
  have sX : X.heap.size = U.heap.size + 2 := by rw [← hX]; simp
  have bX : Below U.heap.size U X := hX ▸ ((Below.refl _ _).alloc (Nat.le_refl _) _).alloc (by simp) _
  go_upto_region 7 with fail
  clear hX c0 c1 c2 c3
  have hn0 : 0 < n := by omega
  obtain ⟨A', cap', hv', _, _, hcd⟩ := HWH.out.at_
  cases hv'
  obtain ⟨cb, coff, rfl, hcb, hcc⟩ := hcd hn0
  have HCC := Lib.hid hcc
  clear hcc hcd
  obtain ⟨xb, hxb⟩ : ∃ xb, X.heap.size = xb := ⟨_, rfl⟩
  obtain ⟨ub, hub⟩ : ∃ ub, U.heap.size = ub := ⟨_, rfl⟩
  have BX := Lib.hid (BU.out.trans (bX.mono (by omega)))
  have hXw : w.heap.size < X.heap.size := by omega
  have m0 : X.cell? ⟨w.heap.size, 0, none⟩ = some (.slice (some ⟨cb, coff, none⟩) n cap) := by rw [bX.cell (p := ⟨w.heap.size, 0, none⟩) swU]; exact x0
  have HM1 := Lib.hid (show X.cell? ⟨w.heap.size, 1, none⟩ = some (.slice (some ⟨eb, eoff, none⟩) ents.length ecap) by rw [bX.cell (p := ⟨w.heap.size, 1, none⟩) swU]; exact x1)
  have HM2 := Lib.hid (show X.cell? ⟨w.heap.size, 2, none⟩ = some (.int .i64 sh) by rw [bX.cell (p := ⟨w.heap.size, 2, none⟩) swU]; exact x2)
  have HM3 := Lib.hid (show X.cell? ⟨w.heap.size, 3, none⟩ = some (.int .i64 lk) by rw [bX.cell (p := ⟨w.heap.size, 3, none⟩) swU]; exact x3)
  have HM0 := Lib.hid m0
  rw [hub] at kX0 kX1 sX ⊢
  have swub : w.heap.size < ub := by omega
  have KX0 := Lib.hid kX0
  have KX1 := Lib.hid kX1
  have SX := Lib.hid sX
  have n0 : X.cell? ⟨ub + 1, 0, none⟩ = some (.slice (some ⟨cb, coff, none⟩) n cap) := by simp [World.cell?, kX1]
  have n0f : X.frozen? ⟨ub + 1, 0, none⟩ = false := by simp [World.frozen?, kX1]
  have hubX : ub + 1 < X.heap.size := by omega
  obtain ⟨iU, hiU, hU0, hU1, hU2⟩ := info_parts infoU
  clear kX0 kX1 sX hxb hub x0 x1 x2 x3 bX xb
  have ws0l : (uvs ((List.range n).map cd)).length = n * 1 := by simp [uvs]
  have HSRC := Lib.hid (show ∀ j u, (uvs ((List.range n).map cd))[j]? = some u → (X.alloc (.cells #[] 56)).cell? ((⟨cb, coff, none⟩ : Addr).add j) = some u from fun j u hu => by
    have hj : j < n := by have := (List.getElem?_eq_some_iff.1 hu).1; omega
    rw [addAt, ((BX.out.alloc (by omega) _).cell (p := ⟨cb, coff + j, none⟩) hcb), HCC.out j hj, ← hu]
    simp [uvs, List.getElem?_range hj])
  have HOW0 := Lib.hid (World.ownsRow_made (e := 56) (size := 1) X #[] 0 (Nat.le_refl X.heap.size) (Nat.zero_le _) rfl)
  go_upto_region 8 with (at_builtin; refine wpList_append_own_at _ rfl (.tmp 45) (.tmp 47) 22 rfl X.heap.size 56 iU (.int .u32 0) 1 4 Tryd.underlying22 hiU hU0 hU1 hU2 rfl (by decide) (.slice (some ⟨X.heap.size, 0, none⟩) 0 0) 0 [] rfl HOW0.out ⟨cb, coff, none⟩ n cap (uvs ((List.range n).map cd)) rfl ws0l HSRC.out (uvs_one _) (by unfold maxLen; omega) (by omega) (by simp) ?_; intro v' W' hown' hgrow _ hob; rw [Nat.zero_add, List.nil_append] at hown'; obtain ⟨gb, cp', rfl, hgb⟩ := own_at hown' hn0; have hc0 := hgrow.cell (a := ⟨ub + 1, 0, none⟩) (v := .slice (some ⟨cb, coff, none⟩) n cap) (by simp [go_sem, *]) (by simp [Value.ownBlock]; omega); have hf0 : W'.frozen? ⟨ub + 1, 0, none⟩ = false := by have h1 := hgrow.block (ub + 1) (by rw [World.size_alloc]; omega) (by simp [Value.ownBlock]; omega); rw [heap_alloc_old _ _ hubX, KX1.out] at h1; simp [World.frozen?, h1])
  obtain ⟨Y, hY⟩ : ∃ Y, W'.setCell ⟨ub + 1, 0, none⟩ (.slice (some ⟨gb, 0, none⟩) n cp') = Y := ⟨_, rfl⟩
  rw [hY]
  have hW's := hgrow.size
  rw [World.size_alloc] at hW's
  have hWb : ∀ b, b < X.heap.size → W'.heap[b]? = X.heap[b]? := fun b hb => by
    rw [hgrow.block b (by rw [World.size_alloc]; omega) (by simp [Value.ownBlock]; omega), heap_alloc_old _ _ hb]
  have bW : Below X.heap.size X W' := ⟨hgrow.os, hgrow.tape, hgrow.output, by omega, hWb⟩
  have kW : W'.heap[ub + 1]? = some (.cells #[.slice (some ⟨cb, coff, none⟩) n cap, .slice (some ⟨eb, eoff, none⟩) ents.length ecap, .int .i64 sh, .int .i64 lk] 25) := by rw [hWb _ hubX]; exact KX1.out
  have kY : Y.heap[ub + 1]? = some (.cells #[.slice (some ⟨gb, 0, none⟩) n cp', .slice (some ⟨eb, eoff, none⟩) ents.length ecap, .int .i64 sh, .int .i64 lk] 25) := by
    rw [← hY, heap_setCell_same W' (ub + 1) 0 _ _ _ kW]
    rfl
  have kY0 : Y.heap[ub]? = some (.cells #[.string e.nm, .int .i64 e.st, .int .i64 e.en, .int .i64 e.da] 39) := by
    rw [← hY, Below.heap_setCell _ _ _ _ (by show ub ≠ ub + 1; omega), hWb _ (by omega)]
    exact KX0.out
  have bY : Below ub X Y := by
    rw [← hY]
    exact (bW.mono (by omega)).setCell (by show ub ≤ ub + 1; omega) _
  have BY := Lib.hid (BX.out.trans (bY.mono (by have := SX.out; omega)))
  have sY : Y.heap.size = W'.heap.size := by rw [← hY]; simp
  have HOY := Lib.hid (show Y.ownsRow X.heap.size 56 1 (.slice (some ⟨gb, 0, none⟩) n cp') n (uvs ((List.range n).map cd)) by rw [← hY]; exact ownsRow_setCell_below hown' hubX _)
  have KY := Lib.hid kY
  have KY0 := Lib.hid kY0
  have z0 : Y.cell? ⟨w.heap.size, 0, none⟩ = some (.slice (some ⟨cb, coff, none⟩) n cap) := by rw [bY.cell (p := ⟨w.heap.size, 0, none⟩) swub]; exact HM0.out
  have z1 : Y.cell? ⟨w.heap.size, 1, none⟩ = some (.slice (some ⟨eb, eoff, none⟩) ents.length ecap) := by rw [bY.cell (p := ⟨w.heap.size, 1, none⟩) swub]; exact HM1.out
  have z2 : Y.cell? ⟨w.heap.size, 2, none⟩ = some (.int .i64 sh) := by rw [bY.cell (p := ⟨w.heap.size, 2, none⟩) swub]; exact HM2.out
  have z3 : Y.cell? ⟨w.heap.size, 3, none⟩ = some (.int .i64 lk) := by rw [bY.cell (p := ⟨w.heap.size, 3, none⟩) swub]; exact HM3.out
  have HZ := Lib.hid (And.intro z0 (And.intro z1 (And.intro z2 z3)))
  have hgY : gb < Y.heap.size := by have := (hown'.lt gb rfl).2; omega
  have hubY : ub + 1 < Y.heap.size := by omega
  have HXs := Lib.hid (show ub + 2 = X.heap.size from SX.out.symm)
  have hgb2 : ub + 1 < gb := by have := SX.out; omega
  have HENC := Lib.hid (show Calls Tryd.prog 25 #[.agg #[.int .u8 1, .int .i64 0, .int .i64 0, .int .i64 0, .int .i64 0]] Y fun e w' => e = .returned (.tuple #[.int .u32 67108864, .int .i64 0]) ∧ Below Y.heap.size Y w' from by
    have h1 := encode_any ⟨1, 0, 0, 0, 0⟩ (by decide) Y (HT.out.below BY.out)
    rw [enc_halt] at h1
    exact h1)
  clear hY hW's hWb bW kW kY kY0 bY sY hown' hgrow hob hc0 hf0 m0 n0 n0f HM0 HM1 HM2 HM3 HSRC HOW0 KX0 KX1 hubX hXw z0 z1 z2 z3 BX SX ws0l
  go_upto_region 9 with (go_at_call 25; refine HENC.out.mono ?_; rintro e' Z ⟨rfl, hbz⟩)
  have bz := hbz.size
  have kZ : Z.heap[ub + 1]? = some (.cells #[.slice (some ⟨gb, 0, none⟩) n cp', .slice (some ⟨eb, eoff, none⟩) ents.length ecap, .int .i64 sh, .int .i64 lk] 25) := by rw [hbz.block _ hubY]; exact KY.out
  have kZ0 : Z.heap[ub]? = some (.cells #[.string e.nm, .int .i64 e.st, .int .i64 e.en, .int .i64 e.da] 39) := by rw [hbz.block _ (by omega)]; exact KY0.out
  have HOZ := Lib.hid (ownsRow_below HOY.out hbz)
  have BZ := Lib.hid (BY.out.trans (hbz.mono (by have := BY.out.size; omega)))
  have swY : w.heap.size < Y.heap.size := by omega
  have ZZ := Lib.hid (show Z.cell? ⟨w.heap.size, 0, none⟩ = some (.slice (some ⟨cb, coff, none⟩) n cap) ∧ Z.cell? ⟨w.heap.size, 1, none⟩ = some (.slice (some ⟨eb, eoff, none⟩) ents.length ecap) ∧ Z.cell? ⟨w.heap.size, 2, none⟩ = some (.int .i64 sh) ∧ Z.cell? ⟨w.heap.size, 3, none⟩ = some (.int .i64 lk) from
    ⟨by rw [hbz.cell (p := ⟨w.heap.size, 0, none⟩) swY]; exact HZ.out.1, by rw [hbz.cell (p := ⟨w.heap.size, 1, none⟩) swY]; exact HZ.out.2.1, by rw [hbz.cell (p := ⟨w.heap.size, 2, none⟩) swY]; exact HZ.out.2.2.1, by rw [hbz.cell (p := ⟨w.heap.size, 3, none⟩) swY]; exact HZ.out.2.2.2⟩)
  have KZ := Lib.hid kZ
  have KZ0 := Lib.hid kZ0
  have q0 : Z.cell? ⟨ub + 1, 0, none⟩ = some (.slice (some ⟨gb, 0, none⟩) n cp') := by simp [World.cell?, kZ]
  have hubZ : ub + 1 < Z.heap.size := by omega
  have hgZ : gb < Z.heap.size := by omega
  have HAL := Lib.hid (Alt.first e.st e.en HWH.out.wd)
  clear kZ kZ0 hbz HENC HOY KY KY0 BY HZ bz hubY hgY swY
  go_upto_region 10 with fail
  clear q0
  go_loopw [11, 58] (fun a11 a58 wr => ∃ (j : Nat) (ws : List Int), j ≤ n ∧ a58 = .int .i64 (j : Int) ∧ Alt n cd e.st e.en ws ∧ wr.ownsRow X.heap.size 56 1 (.slice (some ⟨gb, 0, none⟩) n cp') n (uvs ws) ∧ Z.grownBy wr (some gb)) (fun _ a58 _ => n - (intOf a58).toNat)
  case atStart => exact ⟨0, _, Nat.zero_le _, rfl, HAL.out, HOZ.out, World.grownBy.refl _ _⟩
  case round =>
    obtain ⟨j, ws, hj, rfl, hal, how, hgr⟩ := hrel
    have HA := Lib.hid hal
    have HO := Lib.hid how
    have HG := Lib.hid hgr
    have hgs := hgr.size
    have kr : wr.heap[ub + 1]? = some (.cells #[.slice (some ⟨gb, 0, none⟩) n cp', .slice (some ⟨eb, eoff, none⟩) ents.length ecap, .int .i64 sh, .int .i64 lk] 25) := by rw [hgr.block _ hubZ (by simp; omega)]; exact KZ.out
    have kr0 : wr.heap[ub]? = some (.cells #[.string e.nm, .int .i64 e.st, .int .i64 e.en, .int .i64 e.da] 39) := by rw [hgr.block _ (by omega) (by simp; omega)]; exact KZ0.out
    have q0 : wr.cell? ⟨ub + 1, 0, none⟩ = some (.slice (some ⟨gb, 0, none⟩) n cp') := by simp [World.cell?, kr]
    have q1 : wr.cell? ⟨ub, 1, none⟩ = some (.int .i64 e.st) := by simp [World.cell?, kr0]
    have q2 : wr.cell? ⟨ub, 2, none⟩ = some (.int .i64 e.en) := by simp [World.cell?, kr0]
    have KR := Lib.hid kr
    clear hal how hgr kr kr0
    by_cases hlt : j < n
    · have dl : decide ((j : Int) < (n : Int)) = true := decide_eq_true (by omega)
      have c0 : wr.cell? ⟨gb, j, none⟩ = some (.int .u32 (ws.getD j 0)) := by
        rw [HO.out.cellAt j (by omega)]
        simp [uvs, List.getD, List.getElem?_eq_getElem (show j < ws.length by have := HA.out.len; omega)]
      have c0f : wr.frozen? ⟨gb, j, none⟩ = false := HO.out.frozenAt j
      by_cases hs : (j : Int) < e.st
      · have ds : decide ((j : Int) < e.st) = true := decide_eq_true hs
        have HJ := Lib.hid (show (j : Int) < e.st ∨ e.en ≤ (j : Int) from .inl hs)
        clear hs
        go_upto_region 14 with fail
        obtain ⟨o1, o2⟩ := HO.out.stored j (.int .u32 67108864)
        rw [uvs_set] at o1
        obtain ⟨W1, hW1⟩ : ∃ W1, wr.setCell ⟨gb, j, none⟩ (.int .u32 67108864) = W1 := ⟨_, rfl⟩
        rw [hW1] at o1 o2 ⊢
        have HA1 := Lib.hid (HA.out.set HJ.out (x := 67108864) (by omega))
        have hl1 := HA1.out.len
        obtain ⟨w1, hw1⟩ : ∃ w1, ws.set j 67108864 = w1 := ⟨_, rfl⟩
        rw [hw1] at o1 HA1 hl1
        have HO1 := Lib.hid o1
        have HG1 := Lib.hid (HG.out.trans o2)
        have kr1 : W1.heap[ub + 1]? = some (.cells #[.slice (some ⟨gb, 0, none⟩) n cp', .slice (some ⟨eb, eoff, none⟩) ents.length ecap, .int .i64 sh, .int .i64 lk] 25) := by rw [HG1.out.block _ hubZ (by simp; omega)]; exact KZ.out
        have q0' : W1.cell? ⟨ub + 1, 0, none⟩ = some (.slice (some ⟨gb, 0, none⟩) n cp') := by simp [World.cell?, kr1]
        have c1 : W1.cell? ⟨gb, j, none⟩ = some (.int .u32 (w1.getD j 0)) := by
          rw [o1.cellAt j (by omega)]
          simp [uvs, List.getD, List.getElem?_eq_getElem (show j < w1.length by omega)]
        have c1f : W1.frozen? ⟨gb, j, none⟩ = false := o1.frozenAt j
        have HA2 := Lib.hid (HA1.out.set HJ.out (x := 0) (by omega))
        obtain ⟨o3, o4⟩ := o1.stored j (.int .u32 0)
        rw [uvs_set] at o3
        have HO2 := Lib.hid o3
        have HG2 := Lib.hid (HG1.out.trans o4)
        clear hW1 hw1 o1 o2 o3 o4 kr1 c0 c0f q0 q1 q2 ds HO HG HA KR
        go_wp2_with fail
        all_goals
          go_roundw
          case rel => first | exact ⟨j + 1, _, by omega, by go_num, HA1.out, HO1.out, HG1.out⟩ | exact ⟨j + 1, _, by omega, by go_num, HA2.out, HO2.out, HG2.out⟩
          case measure => simp [intOf]; omega
      by_cases hs2 : e.en ≤ (j : Int)
      · have ds : decide ((j : Int) < e.st) = false := decide_eq_false hs
        have ds2 : decide (e.en ≤ (j : Int)) = true := decide_eq_true hs2
        have HJ := Lib.hid (show (j : Int) < e.st ∨ e.en ≤ (j : Int) from .inr hs2)
        clear hs hs2
        go_upto_region 14 with fail
        obtain ⟨o1, o2⟩ := HO.out.stored j (.int .u32 67108864)
        rw [uvs_set] at o1
        obtain ⟨W1, hW1⟩ : ∃ W1, wr.setCell ⟨gb, j, none⟩ (.int .u32 67108864) = W1 := ⟨_, rfl⟩
        rw [hW1] at o1 o2 ⊢
        have HA1 := Lib.hid (HA.out.set HJ.out (x := 67108864) (by omega))
        have hl1 := HA1.out.len
        obtain ⟨w1, hw1⟩ : ∃ w1, ws.set j 67108864 = w1 := ⟨_, rfl⟩
        rw [hw1] at o1 HA1 hl1
        have HO1 := Lib.hid o1
        have HG1 := Lib.hid (HG.out.trans o2)
        have kr1 : W1.heap[ub + 1]? = some (.cells #[.slice (some ⟨gb, 0, none⟩) n cp', .slice (some ⟨eb, eoff, none⟩) ents.length ecap, .int .i64 sh, .int .i64 lk] 25) := by rw [HG1.out.block _ hubZ (by simp; omega)]; exact KZ.out
        have q0' : W1.cell? ⟨ub + 1, 0, none⟩ = some (.slice (some ⟨gb, 0, none⟩) n cp') := by simp [World.cell?, kr1]
        have c1 : W1.cell? ⟨gb, j, none⟩ = some (.int .u32 (w1.getD j 0)) := by
          rw [o1.cellAt j (by omega)]
          simp [uvs, List.getD, List.getElem?_eq_getElem (show j < w1.length by omega)]
        have c1f : W1.frozen? ⟨gb, j, none⟩ = false := o1.frozenAt j
        have HA2 := Lib.hid (HA1.out.set HJ.out (x := 0) (by omega))
        obtain ⟨o3, o4⟩ := o1.stored j (.int .u32 0)
        rw [uvs_set] at o3
        have HO2 := Lib.hid o3
        have HG2 := Lib.hid (HG1.out.trans o4)
        clear hW1 hw1 o1 o2 o3 o4 kr1 c0 c0f q0 q1 q2 ds ds2 HO HG HA KR
        go_wp2_with fail
        all_goals
          go_roundw
          case rel => first | exact ⟨j + 1, _, by omega, by go_num, HA1.out, HO1.out, HG1.out⟩ | exact ⟨j + 1, _, by omega, by go_num, HA2.out, HO2.out, HG2.out⟩
          case measure => simp [intOf]; omega
      have ds : decide ((j : Int) < e.st) = false := decide_eq_false hs
      have ds2 : decide (e.en ≤ (j : Int)) = false := decide_eq_false hs2
      clear hs hs2
      go_wp2_with fail
      go_roundw
      case rel => exact ⟨j + 1, ws, by omega, by go_num, HA.out, HO.out, HG.out⟩
      case measure => simp [intOf]; omega
    · obtain rfl : j = n := by omega
      have dl : decide ((j : Int) < (j : Int)) = false := by simp
      obtain rfl : j = ws.length := HA.out.len.symm
      have hbr : Below w.heap.size w wr := BZ.out.grown HG.out (by have := BZ.out.size; omega) (fun q hq => by simp at hq; omega)
      have BR := Lib.hid hbr
      have kz := HG.out.block w.heap.size (by have := BZ.out.size; omega) (by simp; omega)
      have p0 : wr.cell? ⟨w.heap.size, 0, none⟩ = some (.slice (some ⟨cb, coff, none⟩) ws.length cap) := (World.cell?_of_block kz).trans ZZ.out.1
      have p1 : wr.cell? ⟨w.heap.size, 1, none⟩ = some (.slice (some ⟨eb, eoff, none⟩) ents.length ecap) := (World.cell?_of_block kz).trans ZZ.out.2.1
      have p2 : wr.cell? ⟨w.heap.size, 2, none⟩ = some (.int .i64 sh) := (World.cell?_of_block kz).trans ZZ.out.2.2.1
      have p3 : wr.cell? ⟨w.heap.size, 3, none⟩ = some (.int .i64 lk) := (World.cell?_of_block kz).trans ZZ.out.2.2.2
      have kr := KR.out
      have r0 : wr.cell? ⟨ub + 1, 0, none⟩ = some (.slice (some ⟨gb, 0, none⟩) ws.length cp') := by simp [World.cell?, kr]
      have r1 : wr.cell? ⟨ub + 1, 1, none⟩ = some (.slice (some ⟨eb, eoff, none⟩) ents.length ecap) := by simp [World.cell?, kr]
      have r2 : wr.cell? ⟨ub + 1, 2, none⟩ = some (.int .i64 sh) := by simp [World.cell?, kr]
      have r3 : wr.cell? ⟨ub + 1, 3, none⟩ = some (.int .i64 lk) := by simp [World.cell?, kr]
      have swr : w.heap.size < wr.heap.size := by omega
      have subr : ub + 1 < wr.heap.size := by omega
      have HW2 := Lib.hid (own_words HO.out (by omega) HA.out.wd)
      obtain ⟨c2, hc2'⟩ : ∃ c2 : Nat → Int, (fun i => ws.getD i 0) = c2 := ⟨_, rfl⟩
      have HSM := Lib.hid (show ∀ a, e.st ≤ a → a < e.en → insAt cd a = insAt c2 a from fun a h1 h2 => by rw [← hc2']; exact alt_ins HA.out g1 g3 a h1 h2)
      rw [hc2'] at HW2
      have HB1 := Lib.hid (show ∀ y : Ext wr, _ from fun y : Ext wr => build_out _ _ sh lk ws.length cd ents k e y.w (HT.out.below (Ext.below BR.out BR.out.size y)) ((HWH.out.below (Ext.below BR.out BR.out.size y)).words (by omega)) (HEH.out.below (Ext.below BR.out BR.out.size y)) HGd.out HEN.out)
      have HCK := Lib.hid (check_any (.slice (some ⟨gb, 0, none⟩) ws.length cp') (.slice (some ⟨eb, eoff, none⟩) ents.length ecap) sh lk ws.length c2 ents wr (HT.out.below BR.out) HW2.out (HEH.out.below BR.out))
      clear q0 q1 q2 hc2' hbr kz kr HA HO HG KR HAL HOZ ZZ KZ KZ0 dl
      by_cases hg2 : GoodI ws.length c2 ents sh lk
      case neg =>
        have HC := Lib.hid (show Calls Tryd.prog 13 #[.agg #[.slice (some ⟨gb, 0, none⟩) ws.length cp', .slice (some ⟨eb, eoff, none⟩) ents.length ecap, .int .i64 sh, .int .i64 lk]] wr fun e w' => ∃ r, e = .returned (.int .i64 r) ∧ (r != 0) = true ∧ ∃ y : Ext wr, y.w = w' from HCK.out.mono fun e w' ⟨⟨r, h1, h2⟩, h3⟩ => ⟨r, h1, by simp; intro h; exact hg2 (h2.1 h), ⟨w', h3⟩, rfl⟩)
        clear HCK hg2
        have dl' : decide ((ws.length : Int) < (ws.length : Int)) = false := by simp
        go_wp2_with (go_at_call 13; refine HC.out.mono ?_; rintro e w' ⟨r, rfl, dr, u, rfl⟩)
        go_ret
        exact ⟨rfl, Ext.below BR.out BR.out.size u⟩
      have HC := Lib.hid (show Calls Tryd.prog 13 #[.agg #[.slice (some ⟨gb, 0, none⟩) ws.length cp', .slice (some ⟨eb, eoff, none⟩) ents.length ecap, .int .i64 sh, .int .i64 lk]] wr fun e w' => e = .returned (.int .i64 0) ∧ ∃ y : Ext wr, y.w = w' from HCK.out.mono fun e w' ⟨⟨r, h1, h2⟩, h3⟩ => ⟨by rw [h1, h2.2 hg2], ⟨w', h3⟩, rfl⟩)
      have HB2 := Lib.hid (show ∀ W : World, Below wr.heap.size wr W → _ from fun W hW => build_out (.slice (some ⟨gb, 0, none⟩) ws.length cp') _ sh lk ws.length c2 ents k e W (HT.out.below (BR.out.trans (hW.mono BR.out.size))) (HW2.out.below hW) (HEH.out.below (BR.out.trans (hW.mono BR.out.size))) hg2 HEN.out)
      have dl' : decide ((ws.length : Int) < (ws.length : Int)) = false := by simp
      clear HCK hg2
      go_upto_region 20 with (first | (go_at_call 13; refine HC.out.mono ?_; rintro e w' ⟨rfl, u, rfl⟩) | (go_at_call 12; refine (HB1.out _).mono ?_; rintro e' W2 ⟨r, bv, pv, hr, rfl, hB, hP, hb2⟩; obtain ⟨bA, bcap, rfl, gg1, gg2⟩ := hB.slice; obtain ⟨pA, pcap, rfl, pp1, pp2⟩ := hP.slice))
      have hF := hr.fine g1 g2
      obtain ⟨X2, hX2⟩ : ∃ X2, W2.alloc (.cells #[.slice bA r.G.length bcap, .slice pA r.P.length pcap] 31) = X2 := ⟨_, rfl⟩
      have bX2 : Below W2.heap.size W2 X2 := hX2 ▸ (Below.refl _ _).alloc (Nat.le_refl _) _
      have kX2 : X2.heap[W2.heap.size]? = some (.cells #[.slice bA r.G.length bcap, .slice pA r.P.length pcap] 31) := hX2 ▸ heap_alloc_new _ _
      have sX2 : W2.heap.size < X2.heap.size := by rw [← hX2]; simp
      have us := u.h.size
      have hs2 := hb2.size
      have hbX2 : Below wr.heap.size wr X2 := u.h.trans ((hb2.mono us).trans (bX2.mono (by omega)))
      have BX2 := Lib.hid hbX2
      have KX2 := Lib.hid kX2
      have HB' := Lib.hid (hB.below bX2)
      have HP' := Lib.hid (hP.below bX2)
      have t0 : X2.cell? ⟨ub + 1, 0, none⟩ = some (.slice (some ⟨gb, 0, none⟩) ws.length cp') := by rw [hbX2.cell (p := ⟨ub + 1, 0, none⟩) subr]; exact r0
      have t1 : X2.cell? ⟨ub + 1, 1, none⟩ = some (.slice (some ⟨eb, eoff, none⟩) ents.length ecap) := by rw [hbX2.cell (p := ⟨ub + 1, 1, none⟩) subr]; exact r1
      have t2 : X2.cell? ⟨ub + 1, 2, none⟩ = some (.int .i64 sh) := by rw [hbX2.cell (p := ⟨ub + 1, 2, none⟩) subr]; exact r2
      have t3 : X2.cell? ⟨ub + 1, 3, none⟩ = some (.int .i64 lk) := by rw [hbX2.cell (p := ⟨ub + 1, 3, none⟩) subr]; exact r3
      obtain ⟨qa, hqa⟩ : ∃ qa, W2.heap.size = qa := ⟨_, rfl⟩
      have HR := Lib.hid hr
      have HF := Lib.hid hF
      rw [hX2]
      rw [hqa] at KX2 sX2 ⊢
      clear hX2 bX2 kX2 hbX2 hB hP hb2 hr hF r0 r1 r2 r3 p0 p1 p2 p3 hqa us hs2 HB1 HC
      go_upto_region 21 with (go_at_call 12; refine (HB2.out X2 BX2.out).mono ?_; rintro e' W4 ⟨r', bv', pv', hr', rfl, hB, hP, hb4⟩; obtain rfl := HR.out.same g1 g2 HSM.out hr'; obtain ⟨bA', bcap', rfl, gg1', gg2'⟩ := hB.slice; obtain ⟨pA', pcap', rfl, pp1', pp2'⟩ := hP.slice)
      obtain ⟨X4, hX4⟩ : ∃ X4, W4.alloc (.cells #[.slice bA' r.G.length bcap', .slice pA' r.P.length pcap'] 31) = X4 := ⟨_, rfl⟩
      have bX4 : Below W4.heap.size W4 X4 := hX4 ▸ (Below.refl _ _).alloc (Nat.le_refl _) _
      have kX4 : X4.heap[W4.heap.size]? = some (.cells #[.slice bA' r.G.length bcap', .slice pA' r.P.length pcap'] 31) := hX4 ▸ heap_alloc_new _ _
      have sX4 : W4.heap.size < X4.heap.size := by rw [← hX4]; simp
      have hs4 := hb4.size
      have hb24 : Below X2.heap.size X2 X4 := hb4.trans (bX4.mono hs4)
      have hs24 := hb24.size
      have kq : X4.heap[qa]? = some (.cells #[.slice bA r.G.length bcap, .slice pA r.P.length pcap] 31) := by rw [hb24.block _ sX2]; exact KX2.out
      have v0 : X4.cell? ⟨qa, 0, none⟩ = some (.slice bA r.G.length bcap) := by simp [World.cell?, kq]
      have v1 : X4.cell? ⟨qa, 1, none⟩ = some (.slice pA r.P.length pcap) := by simp [World.cell?, kq]
      have v2 : X4.cell? ⟨W4.heap.size, 0, none⟩ = some (.slice bA' r.G.length bcap') := by simp [World.cell?, kX4]
      have v3 : X4.cell? ⟨W4.heap.size, 1, none⟩ = some (.slice pA' r.P.length pcap') := by simp [World.cell?, kX4]
      have BR4 := Lib.hid (BR.out.trans (BX2.out.mono BR.out.size |>.trans (hb24.mono (by have := BX2.out.size; have := BR.out.size; omega))))
      obtain ⟨qc, hqc⟩ : ∃ qc, W4.heap.size = qc := ⟨_, rfl⟩
      have HG1 := Lib.hid (HB'.out.below hb24)
      have HG2 := Lib.hid (HP'.out.below hb24)
      have HG3 := Lib.hid (hB.below bX4)
      rw [hX4]
      rw [hqc] at v2 v3 sX4 ⊢
      have hqa4 : qa < X4.heap.size := by omega
      clear hX4 bX4 kX4 hb24 kq hB hP hb4 hqc t0 t1 t2 t3 HB2 HB' HP' hs4 KX2 hr'
      have HBK := Lib.hid (show ∀ W, Below X4.heap.size X4 W → Calls Tryd.prog 21 #[.agg #[.slice bA' r.G.length bcap', .slice pA' r.P.length pcap']] W fun e w' => ∃ v, e = .returned v ∧ ∃ y : Ext X4, y.w = w' ∧ Blks y.w v r.G from fun W hW => (blocks_any _ _ r.G W (HG3.out.below hW) (by have := HF.out.len; omega)).mono fun e w' ⟨⟨v, h1, h2⟩, h3⟩ => ⟨v, h1, ⟨w', hW.trans (h3.mono hW.size)⟩, rfl, h2⟩)
      have HIS := Lib.hid (show ∀ (v : Value) (y : Ext X4), Blks y.w v r.G → Calls Tryd.prog 16 #[.agg #[.slice bA r.G.length bcap, .slice pA r.P.length pcap], v] y.w fun e w' => e = .returned (.bool true) ∧ ∃ y : Ext X4, y.w = w' from fun v y hv => (is_any _ _ v r.G r.P y.w (HG1.out.below y.h) (HG2.out.below y.h) hv HF.out.prev (by have := HF.out.len; omega) (fun x hx => by have := HF.out.nx x hx; omega) HF.out.inn).mono fun e w' ⟨h1, h3⟩ => ⟨h1, ⟨w', y.h.trans (h3.mono y.h.size)⟩, rfl⟩)
      go_region_with (first | (go_at_call 21; refine (HBK.out _ (by first | exact Below.drew (Below.refl _ _) | exact Ext.h _)).mono ?_; rintro e w' ⟨v3, rfl, y3, rfl, h3⟩) | (go_at_call 16; refine (HIS.out v3 y3 h3).mono ?_; rintro e w' ⟨rfl, y4, rfl⟩))
      all_goals
        have FB := Lib.hid (Ext.below BR4.out BR4.out.size y4)
        clear h3 HBK HIS v0 v1 v2
        go_wp2_with fail
        go_ret
        exact ⟨rfl, FB.out⟩

end Go.Proofs.YtfceodpdipniaaaDoor
