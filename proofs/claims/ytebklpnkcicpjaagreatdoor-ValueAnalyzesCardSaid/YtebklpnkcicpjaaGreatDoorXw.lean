/-
  What is proved here: parts rAz.
-/
import Derived.Test.YtebklpnkcicpjaaGreatDoorXa
import Derived.Test.YtebklpnkcicpjaaGreatDoorXv
import Derived.Test.YtebklpnkcicpjaaGreatDoorXl
namespace Go.Proofs.YtebklpnkcicpjaaGreatDoor
set_option linter.unusedVariables false
set_option linter.unusedSimpArgs false
set_option maxRecDepth 100000
set_option maxHeartbeats 8000000
section
open Go.RowKit
theorem zj (w : World) : Calls Tryz.prog 28 #[] w fun e w' => e = .returned (.agg (aa aq).toArray) ∧ Below w.heap.size w w' := by
  go_enter Tryz.func28, Tryz.ntmps28
  go_wp2_with (refine wpList_store_row rfl 61 (.tmp 0) _ rfl w.heap.size (aa aq).toArray rfl rfl 61 _ (heap_alloc_new _ _) (ra aI ak) (hi6 ak ak) (aj aq) ?_)
  refine bodyPost_ret (eH (P := Tryz.prog) Tryz.results28 _ _ w.heap.size (aa aq) _ rfl (au (setRow_heap _ _ _ _ _ _ (heap_alloc_new _ _))) Tryz.underlying61 rfl (rn aI ak)) rfl ⟨rfl, below_setRow ((Below.refl _ _).alloc (Nat.le_refl _) _) (Nat.le_refl _) _⟩
theorem ML : (Tryz.prog.info? 61).map (fun i => (i.zero, i.size, i.bytes)) = some (some (.agg (aa aq).toArray), 32, 128) := by kernel_rfl
theorem Cv {w : World} {b n : Nat} {cs : Array Value} {T : TypeId} (h : w.heap[b]? = some (.cells cs T (0, 0))) (hn : n ≤ cs.size) : w.there b 0 n := fun j hj => by
  constructor
  · simp [World.cell?, h, show j < cs.size by omega]
  · simp [World.frozen?, h]
theorem JA {w : World} {b : Nat} {zs : Array Value} {cs : List Value} {T : TypeId} (h : w.heap[b]? = some (.cells zs T (0, 0))) (hl : zs.size = cs.length) : (w.setCells b 0 cs).heap[b]? = some (.cells cs.toArray T (0, 0)) := by
  have h2 : w.heap[b]? = some (.cells zs.toList.toArray T (0, 0)) := by simpa using h
  rw [dN b T cs 0 w zs.toList h2 (by simp [← hl]), List.drop_eq_nil_of_le (by simp [← hl])]
  simp
structure Uz (N n : Nat) (x : dL) : Prop where
  run : ∃ f t : Nat, x.lo = (f : Int) ∧ x.hi = (t : Int) ∧ f < t ∧ t ≤ N
  nl : x.nx.length ≤ 1000
  nx : ∀ y ∈ x.nx, 0 ≤ y ∧ y < (n : Int)
def ep (c : Nat → aZ) (G : List dL) : List AB := G.map fun x => ⟨dX c x.lo.toNat (x.hi.toNat - x.lo.toNat), x.nx⟩
theorem BJ {c : Nat → aZ} {G : List dL} {k : Nat} {x : dL} {f t : Nat} (hx : G[k]? = some x) (hf : x.lo = (f : Int)) (ht : x.hi = (t : Int)) : (ep c G)[k]? = some ⟨dX c f (t - f), x.nx⟩ := by
  unfold ep
  rw [List.getElem?_map, hx]
  simp [hf, ht]
theorem KC {c : Nat → aZ} {G : List dL} {N n : Nat} (hop : ∀ i, i < N → 0 ≤ (c i).op) (hok : ∀ x ∈ G, Uz N n x) : ∀ b ∈ ep c G, K6 n b := fun b hb => by
  obtain ⟨x, hx, rfl⟩ := List.mem_map.1 hb
  obtain ⟨⟨f, t, hf, ht, h1, h2⟩, h3, h4⟩ := hok x hx
  refine ⟨FM hop (by rw [hf, ht]; simp; omega), h4⟩
structure BO (w wr : World) (q5 rb ib pb n : Nat) (s : AS) : Prop where
  an : yF w wr rb ib pb n s
  k4 : wr.heap[w.heap.size]? = some (.cells #[.slice none 0 0, .slice none 0 0, .slice none 0 0] 48 (0, 0))
  l5 : w.heap.size < q5
  k5 : wr.heap[q5]? = some (.cells #[.slice (some ⟨rb, 0, none⟩) n n, .slice (some ⟨ib, 0, none⟩) n n, .slice none 0 0] 48 (0, 0))
theorem BO.ne {w wr : World} {q5 rb ib pb n : Nat} {s : AS} (h : BO w wr q5 rb ib pb n s) : (w.heap.size ≠ rb ∧ w.heap.size ≠ ib ∧ w.heap.size ≠ pb) ∧ q5 ≠ rb ∧ q5 ≠ ib ∧ q5 ≠ pb :=
  ⟨⟨aL h.k4 h.an.row.dZ abr, aL h.k4 h.an.row.eC abr, aL h.k4 h.an.row.cP abr⟩, aL h.k5 h.an.row.dZ abr, aL h.k5 h.an.row.eC abr, aL h.k5 h.an.row.cP abr⟩
theorem BO.to {w wr wz : World} {q5 rb ib pb n : Nat} {s s' : AS} (h : BO w wr q5 rb ib pb n s) (h2 : yF w wz rb ib pb n s') (hf : Fr (uh rb ib pb) wr wz) : BO w wz q5 rb ib pb n s' := by
  obtain ⟨⟨a, b, c⟩, d, e, f⟩ := h.ne
  refine ⟨h2, (hf.block _ (ag h.k4) ?_).trans h.k4, h.l5, (hf.block _ (ag h.k5) ?_).trans h.k5⟩
  · rintro (h3 | h3 | h3) <;> contradiction
  · rintro (h3 | h3 | h3) <;> contradiction
theorem BO.keep {w wr wz : World} {q5 rb ib pb n : Nat} {s : AS} (h : BO w wr q5 rb ib pb n s) (hb : Below wr.heap.size wr wz) : BO w wz q5 rb ib pb n s := h.to (h.an.keep hb) (Fr.of hb)
theorem BO.row {w wr : World} {q5 rb ib pb n : Nat} {s : AS} (h : BO w wr q5 rb ib pb n s) : BO w (wr.setRow q5 #[.slice (some ⟨rb, 0, none⟩) n n, .slice (some ⟨ib, 0, none⟩) n n, .slice none 0 0]) q5 rb ib pb n s := by
  obtain ⟨-, d, e, f⟩ := h.ne
  have hl := h.l5
  exact ⟨⟨h.an.row.GN (S := fun k => k = q5) (Fr.setRow (Fr.refl _ _) _ (.inl rfl)) (fun k => d k.symm) (fun k => e k.symm) (fun k => f k.symm) (fun k hk => by omega), h.an.kH, h.an.JI⟩, (setRow_other _ _ _ _ abo).trans h.k4, hl, setRow_heap _ _ _ _ _ _ h.k5⟩
theorem eL.Hq {V w w' : World} {rb ib pb n : Nat} {re : List Bool} {bH : List RG} {rep : List Int} {row : Option Nat} (h : eL V w rb ib pb n re bH rep) (G : w.grownBy w' row) (hn : ∀ q, row = some q → V.heap.size ≤ q ∧ q ≠ rb ∧ q ≠ ib ∧ q ≠ pb) : eL V w' rb ib pb n re bH rep := by
  obtain ⟨a, b, c⟩ := h.lt
  exact ⟨h.aF.grown G h.aF.size (fun q hq => (hn q hq).1), h.rV, h.iV, h.pV, (G.block rb a (fun e => (hn _ e.symm).2.1 rfl)).trans h.dZ, (G.block ib b (fun e => (hn _ e.symm).2.2.1 rfl)).trans h.eC, (G.block pb c (fun e => (hn _ e.symm).2.2.2 rfl)).trans h.cP, h.l1, h.l2, h.l3, h.r16⟩
structure DR (w wr : World) (q5 rb ib pb n : Nat) (s : AS) (dv : Value) (L : List (Int × Int)) : Prop where
  an : yF w wr rb ib pb n s
  k4 : wr.heap[w.heap.size]? = some (.cells #[.slice none 0 0, .slice none 0 0, .slice none 0 0] 48 (0, 0))
  l5 : w.heap.size < q5
  k5 : wr.heap[q5]? = some (.cells #[.slice (some ⟨rb, 0, none⟩) n n, .slice (some ⟨ib, 0, none⟩) n n, dv] 48 (0, 0))
  row : wr.ownsRow w.heap.size 89 2 dv L.length (vI L)
section
variable {w wr : World} {q5 rb ib pb n : Nat} {s : AS} {dv : Value} {L : List (Int × Int)}
theorem DR.keep {wz : World} (h : DR w wr q5 rb ib pb n s dv L) (hb : Below wr.heap.size wr wz) : DR w wz q5 rb ib pb n s dv L :=
  ⟨h.an.keep hb, (hb.block _ (ag h.k4)).trans h.k4, h.l5, (hb.block _ (ag h.k5)).trans h.k5, bk h.row hb⟩
theorem DR.C7 (h : DR w wr q5 rb ib pb n s dv L) : some q5 ≠ dv.ownBlock := fun e => by
  obtain ⟨cs, hc⟩ := dW h.row e.symm
  exact aL hc h.k5 abr rfl
theorem DR.app {w2 W' : World} {y : Int × Int} {v' : Value} (h : DR w wr q5 rb ib pb n s dv L) (hb : Below wr.heap.size wr w2) (hg : w2.grownBy W' dv.ownBlock)
    (hown : W'.ownsRow w.heap.size 89 2 v' (L.length + 1) (vI (L ++ [y]))) : DR w (W'.setCell ⟨q5, 2, none⟩ v') q5 rb ib pb n s v' (L ++ [y]) := by
  have G := grown_of hb hg
  have S := dJ W' q5 2 v'
  have hq : ∀ q, dv.ownBlock = some q → w.heap.size ≤ q ∧ q ≠ rb ∧ q ≠ ib ∧ q ≠ pb := fun q hq => by
    obtain ⟨cs, hc⟩ := dW h.row hq
    exact ⟨(h.row.lt q hq).1, aL hc h.an.row.dZ abr, aL hc h.an.row.eC abr, aL hc h.an.row.cP abr⟩
  have h5 : W'.heap[q5]? = some (.cells #[.slice (some ⟨rb, 0, none⟩) n n, .slice (some ⟨ib, 0, none⟩) n n, dv] 48 (0, 0)) := (G.block q5 (ag h.k5) (fun e => h.C7 e)).trans h.k5
  have h4 : W'.heap[w.heap.size]? = some (.cells #[.slice none 0 0, .slice none 0 0, .slice none 0 0] 48 (0, 0)) := (G.block _ (ag h.k4) (fun e => by
    obtain ⟨cs, hc⟩ := dW h.row e.symm
    exact aL hc h.k4 abr rfl)).trans h.k4
  have hR := h.an.row.Hq G hq
  have hl := h.l5
  refine ⟨⟨hR.Hq S (fun q e => by cases e; exact ⟨by omega, aL h5 hR.dZ abr, aL h5 hR.eC abr, aL h5 hR.cP abr⟩), h.an.kH, h.an.JI⟩, ?_, hl, ?_, ?_⟩
  · rw [Below.heap_setCell _ _ _ _ (by show w.heap.size ≠ q5; omega)]; exact h4
  · rw [heap_setCell_same _ _ _ _ _ _ h5]
    rfl
  · rw [show (L ++ [y]).length = L.length + 1 by simp]
    refine hown.kept S ?_
    cases hv : v'.ownBlock with
    | none => exact .inl rfl
    | some q =>
      refine .inr (fun e' => ?_)
      obtain ⟨cs, hc⟩ := dW hown hv
      have e2 : q = q5 := by simpa using e'
      exact aL hc h5 abr e2
theorem DR.sl (h : DR w wr q5 rb ib pb n s dv L) : ∃ vA vn fj, dv = .slice vA vn fj := by
  rcases h.row.2 with ⟨e, _⟩ | ⟨g', cap', cur', e, _⟩
  · exact ⟨_, _, _, e⟩
  · exact ⟨_, _, _, e⟩
end
theorem Ej (c : Nat → aZ) {f t : Nat} (h : f < t) (nx : List Int) (q j : Nat) (r : RG) (hj : j < nx.length) : dO ⟨dX c f (t - f), nx⟩ q (j + 1) r = dO ⟨dX c f (t - f), nx⟩ q j r ++ (if (mZ c f t nx.length j r).isNone = true then [((q : Int), nx.getD j 0)] else []) := by
  unfold mZ
  cases h1 : cQ (dX c f (t - f)) r with
  | none => rw [sD h1 hj]; rfl
  | some a => rw [sA h1, wW c h]; rfl
theorem vH (cv lv : Value) (N : Nat) (c : Nat → aZ) (G : List dL) (n : Nat) (w : World) (HI : jZ w cv N c) (HL : gh w lv G) (hG : G.length = n) (h0 : 0 < n) (hn : n ≤ 1000) (hN : N ≤ 1000000) (hop : ∀ i, i < N → 0 ≤ (c i).op) (hok : ∀ x ∈ G, Uz N n x) :
    Calls Tryz.prog 8 #[cv, lv] w fun e w' => (∃ s rb ib dv, Ends (ep c G) (ct n) s ∧ e = .returned (.agg #[.slice (some ⟨rb, 0, none⟩) n n, .slice (some ⟨ib, 0, none⟩) n n, dv]) ∧ w'.heap[rb]? = some (.cells (s.reach.map Value.bool).toArray 4 (0, 0)) ∧ w'.heap[ib]? = some (.cells (jk s.bH).toArray 61 (0, 0)) ∧ s.reach.length = n ∧ s.bH.length = n ∧ (∀ r ∈ s.bH, R16 r) ∧ EK w' dv (cZ (ep c G) s n)) ∧ Below w.heap.size w w' := by
  obtain ⟨A, cap, hlv, hl1, hl2, hl4⟩ := id HL
  obtain ⟨g, off, rfl, hg, hc⟩ := hl4 abo
  have HLH := acD HL
  have XL := acD HI
  have HGC := acD hc
  have nH := acD hop
  have qp := acD hok
  have oL := acD hG
  rw [hG] at hlv hl1
  subst hlv
  unfold maxLen at hl2
  obtain ⟨V, hV⟩ : ∃ V, w.alloc (.cells #[.slice none 0 0, .slice none 0 0, .slice none 0 0] 48) = V := ⟨_, rfl⟩
  have k4 : V.heap[w.heap.size]? = some (.cells #[.slice none 0 0, .slice none 0 0, .slice none 0 0] 48 (0, 0)) := hV ▸ heap_alloc_new _ _
  have bV : Below w.heap.size w V := hV ▸ (Below.refl _ _).alloc (Nat.le_refl _) _
  have K4 := acD k4
  have BV := acD bV
  have SV := acD (show V.heap.size = w.heap.size + 1 by rw [← hV]; simp)
  clear HL HI hc hop hok hG hl4 k4 bV
  go_enter Tryz.func8, Tryz.ntmps8
  go_upto_region 1 with fail
  clear hV
  obtain ⟨cB, hcB⟩ : ∃ c, ((List.replicate n false).map Value.bool).toArray = c := ⟨_, rfl⟩
  obtain ⟨cR, Hh⟩ : ∃ c, (jk (List.replicate n aq)).toArray = c := ⟨_, rfl⟩
  obtain ⟨cI, M6⟩ : ∃ c, ((List.replicate n (0 : Int)).map (Value.int .i64)).toArray = c := ⟨_, rfl⟩
  obtain ⟨iB, Pz, hB0, hB1, hB2⟩ := info_parts GY
  obtain ⟨iC, Py, PX, PW, hC2⟩ := info_parts ML
  obtain ⟨iD, Px, qd, PV, PU⟩ := info_parts GV
  have mk2 : ∀ W, (Instr.makeSlice 38 (.int .i64 (n : Int)) (.int .i64 (n : Int))).run Tryz.prog W = .ok (.slice (some ⟨W.heap.size, 0, none⟩) n n) (W.alloc (.cells cB 4)) := fun W => by
    have hr := run_make (P := Tryz.prog) W 38 4 iB _ Tryz.underlying38 Pz hB0 .i64 .i64 (n : Int) (n : Int) abo (Int.le_refl _) (by rw [hB2]; omega) abo
    rw [hB1, Int.toNat_natCast] at hr
    rw [hr, ← hcB, ← Lm]
    rfl
  have mk3 : ∀ W, (Instr.makeSlice 46 (.int .i64 (n : Int)) (.int .i64 (n : Int))).run Tryz.prog W = .ok (.slice (some ⟨W.heap.size, 0, none⟩) n n) (W.alloc (.cells cR 61)) := fun W => by
    have hr := run_make (P := Tryz.prog) W 46 61 iC _ Tryz.underlying46 Py PX .i64 .i64 (n : Int) (n : Int) abo (Int.le_refl _) (by rw [hC2]; omega) abo
    rw [PW, Int.toNat_natCast] at hr
    rw [hr, ← Hh, ← Lj]
    rfl
  have mk4 : ∀ W, (Instr.makeSlice 34 (.int .i64 (n : Int)) (.int .i64 (n : Int))).run Tryz.prog W = .ok (.slice (some ⟨W.heap.size, 0, none⟩) n n) (W.alloc (.cells cI 3)) := fun W => by
    have hr := run_make (P := Tryz.prog) W 34 3 iD _ Tryz.underlying34 Px qd .i64 .i64 (n : Int) (n : Int) abo (Int.le_refl _) (by rw [PU]; omega) abo
    rw [PV, Int.toNat_natCast] at hr
    rw [hr, ← M6, ← Ll]
    rfl
  have NS := acD hcB
  have KT := acD Hh
  have NQ := acD M6
  clear hcB Hh M6 hB0 hB1 hB2 PX PW hC2 qd PV PU Pz Py Px
  go_cut [5] from 14 to 20 (fun a5 wx => ∃ q5 rb ib, a5 = .pointer (some ⟨q5, 0, none⟩) ∧ wx.heap[rb]? = some (.cells cB 4 (0, 0)) ∧ wx.heap[ib]? = some (.cells cR 61 (0, 0)) ∧ wx.heap[q5]? = some (.cells #[.slice (some ⟨rb, 0, none⟩) n n, .slice (some ⟨ib, 0, none⟩) n n, .slice none 0 0] 48 (0, 0)) ∧ (V.heap.size ≤ rb ∧ V.heap.size ≤ ib ∧ V.heap.size ≤ q5) ∧ Below V.heap.size V wx)
  case first =>
    refine wp_region_held_drew (S := fun w' => Below V.heap.size V w' ∧ True) abp ?_ (fun hHeld => ?_)
    · have hk : Below V.heap.size V V.drew := Below.drew (Below.refl _ _)
      exact ⟨hk, trivial⟩
    have hk : Below V.heap.size V V.drew := Below.drew (Below.refl _ _)
    obtain ⟨D0, qd⟩ : ∃ D, V.drew = D := ⟨_, rfl⟩
    rw [qd] at hk
    rw [qd] at hHeld ⊢
    clear qd
    refine wpAnyH_take (i := 0) (oi := _) (v := ?_) rfl abp abp abp (fun _ _ _ h => h) (Or.inl ⟨by rfl, ?_⟩) hHeld ?_
    rotate_left
    · intro w' hSw
      clear hSw
      go_simp
      (try with_reducible rfl)
    (try simp only [acE, acF, acG, Act.put, acH, acI, acJ])
    refine wpAnyH_take (i := 1) (oi := _) (v := ?_) rfl abp abp abp (fun _ _ _ h => h) (Or.inl ⟨by rfl, ?_⟩) hHeld ?_
    rotate_left
    · intro w' hSw
      clear hSw
      go_simp
      (try with_reducible rfl)
    (try simp only [acE, acF, acG, Act.put, acH, acI, acJ])
    refine wpAnyH_take (i := 3) (oi := _) (v := ?_) rfl abp abp abp (fun _ _ _ h => h) (Or.inl ⟨by rfl, ?_⟩) hHeld ?_
    rotate_left
    · intro w' hSw
      clear hSw
      go_simp
      (try with_reducible rfl)
    (try simp only [acE, acF, acG, Act.put, acH, acI, acJ])
    refine wpAnyH_take (i := 4) (oi := _) (v := ?_) rfl abp abp abp (fun _ _ _ h => h) (Or.inl ⟨by rfl, ?_⟩) hHeld ?_
    rotate_left
    · intro w' hSw
      clear hSw
      go_simp
      (try with_reducible rfl)
    (try simp only [acE, acF, acG, Act.put, acH, acI, acJ])
    iterate 4
      all_goals
        repeat (first | (refine wpAnyH_take (i := 6) (oi := _) (v := ?_) rfl abp abu abu (fun _ _ _ h => h) (Or.inl ⟨by rfl, ?_⟩) hHeld ?_; rotate_left; focus (intro w' hSw; clear hSw; go_simp; (try with_reducible rfl))))
        (try simp only [acE, acF, acG, Act.put, acH, acI, acJ])
        (first | refine wpAnyH_ready (rs := [2, 5, 7]) abu aby ?_ | refine wpAnyH_ready (rs := [5, 7]) abu aby ?_ | refine wpAnyH_ready (rs := [7]) abu aby ?_ | refine wpAnyH_ready (rs := [8]) abu aby ?_ | refine wpAnyH_ready (rs := [5]) abu aby ?_ | refine wpAnyH_ready (rs := [2, 7]) abu aby ?_ | refine wpAnyH_ready (rs := [2]) abu aby ?_ | refine wpAnyH_ready (rs := [2, 5]) abu aby ?_)
        repeat' (first | exact AllReadyH.nil | refine AllReadyH.cons (o := _) rfl (fun K hK => ?_) ?_)
      all_goals
        first
          | (rw [if_pos acr]
             refine wp_store_mid _ _ _ rfl _ _ #[.slice (some ⟨qr, 0, none⟩) n n, .slice (some ⟨qi, 0, none⟩) n n, .slice none 0 0] rfl rfl (Cv kz (show 3 ≤ (#[.slice none 0 0, .slice none 0 0, .slice none 0 0] : Array Value).size from Nat.le_refl _)) abp abt ?_
             have hk := Below.aX hk lz 0 [.slice (some ⟨qr, 0, none⟩) n n, .slice (some ⟨qi, 0, none⟩) n n, .slice none 0 0]
             have kz := JA (cs := [.slice (some ⟨qr, 0, none⟩) n n, .slice (some ⟨qi, 0, none⟩) n n, .slice none 0 0]) kz rfl
             obtain ⟨D1, hV⟩ : ∃ V, D0.setCells qz 0 [.slice (some ⟨qr, 0, none⟩) n n, .slice (some ⟨qi, 0, none⟩) n n, .slice none 0 0] = V := ⟨_, rfl⟩
             have kr := (aR qz [.slice (some ⟨qr, 0, none⟩) n n, .slice (some ⟨qi, 0, none⟩) n n, .slice none 0 0] 0 D0 qr (VB)).trans kr
             have ki := (aR qz [.slice (some ⟨qr, 0, none⟩) n n, .slice (some ⟨qi, 0, none⟩) n n, .slice none 0 0] 0 D0 qi (VD)).trans ki
             (try rw [List.toList_toArray])
             rw [hV]
             rw [hV] at hk kr ki kz
             clear hV
             obtain ⟨D0, hD⟩ : ∃ V, V = D1 := ⟨_, rfl⟩
             subst hD)
          | (go_simp
             first
               | (obtain ⟨qr, hq⟩ : ∃ q, D0.heap.size = q := ⟨_, rfl⟩
                  obtain ⟨D1, hV⟩ : ∃ V, D0.alloc (.cells cB 4) = V := ⟨_, rfl⟩
                  rw [hV, hq]
                  have hb : Below D0.heap.size D0 D1 := hV ▸ (Below.refl _ _).alloc (Nat.le_refl _) _
                  have kr : D1.heap[qr]? = some (.cells cB 4) := by rw [← hq, ← hV]; exact heap_alloc_new _ _
                  have lr : V.heap.size ≤ qr := by rw [← hq]; exact hk.size
                  (try have Yv : qi ≠ qr := by have := ag ki; omega)
                  (try have ki := (hb.block qi (ag ki)).trans ki)
                  (try have VB : qr ≠ qz := by have := ag kz; omega)
                  (try have kz := (hb.block qz (ag kz)).trans kz)
                  have hk := Below.trans hk (hb.mono hk.size)
                  clear hb hV hq
                  obtain ⟨D0, hD⟩ : ∃ V, V = D1 := ⟨_, rfl⟩
                  subst hD)
               | (obtain ⟨qi, hq⟩ : ∃ q, D0.heap.size = q := ⟨_, rfl⟩
                  obtain ⟨D1, hV⟩ : ∃ V, D0.alloc (.cells cR 61) = V := ⟨_, rfl⟩
                  rw [hV, hq]
                  have hb : Below D0.heap.size D0 D1 := hV ▸ (Below.refl _ _).alloc (Nat.le_refl _) _
                  have ki : D1.heap[qi]? = some (.cells cR 61) := by rw [← hq, ← hV]; exact heap_alloc_new _ _
                  have li : V.heap.size ≤ qi := by rw [← hq]; exact hk.size
                  (try have Yv : qi ≠ qr := by have := ag kr; omega)
                  (try have kr := (hb.block qr (ag kr)).trans kr)
                  (try have VD : qi ≠ qz := by have := ag kz; omega)
                  (try have kz := (hb.block qz (ag kz)).trans kz)
                  have hk := Below.trans hk (hb.mono hk.size)
                  clear hb hV hq
                  obtain ⟨D0, hD⟩ : ∃ V, V = D1 := ⟨_, rfl⟩
                  subst hD)
               | (obtain ⟨qz, hq⟩ : ∃ q, D0.heap.size = q := ⟨_, rfl⟩
                  obtain ⟨D1, hV⟩ : ∃ V, D0.alloc (.cells #[.slice none 0 0, .slice none 0 0, .slice none 0 0] 48) = V := ⟨_, rfl⟩
                  rw [hV, hq]
                  have hb : Below D0.heap.size D0 D1 := hV ▸ (Below.refl _ _).alloc (Nat.le_refl _) _
                  have kz : D1.heap[qz]? = some (.cells #[.slice none 0 0, .slice none 0 0, .slice none 0 0] 48) := by rw [← hq, ← hV]; exact heap_alloc_new _ _
                  have lz : V.heap.size ≤ qz := by rw [← hq]; exact hk.size
                  (try have VB : qr ≠ qz := by have := ag kr; omega)
                  (try have kr := (hb.block qr (ag kr)).trans kr)
                  (try have VD : qi ≠ qz := by have := ag ki; omega)
                  (try have ki := (hb.block qi (ag ki)).trans ki)
                  have hk := Below.trans hk (hb.mono hk.size)
                  clear hb hV hq
                  obtain ⟨D0, hD⟩ : ∃ V, V = D1 := ⟨_, rfl⟩
                  subst hD))
        refine hK.out _ _ (⟨hk, trivial⟩) (fun hHeld => ?_)
        clear hK K
        (try simp only [acE, acF, acG, Act.put, acH, acI, acJ])
    all_goals
      repeat (first | (refine wpAnyH_take (i := 6) (oi := _) (v := ?_) rfl abp abu abu (fun _ _ _ h => h) (Or.inl ⟨by rfl, ?_⟩) hHeld ?_; rotate_left; focus (intro w' hSw; clear hSw; go_simp; (try with_reducible rfl))))
      refine wpAnyH_done abp ?_ _
      clear hHeld
    all_goals
      go_wp2_with fail
      go_meet
      exact ⟨_, _, _, rfl, kr, ki, kz, ⟨lr, li, lz⟩, hk⟩
  obtain ⟨q5, rb, ib, rfl, k1, k2, k5, ⟨l1, l2, l5⟩, bW⟩ := hcut
  obtain ⟨W1, hW⟩ : ∃ E : World, E = wc := ⟨_, rfl⟩
  subst hW
  have K1 := acD k1
  have K2 := acD k2
  have K5 := acD k5
  have BW := acD bW
  have L := acD (And.intro l1 (And.intro l2 l5))
  clear k1 k2 k5 l1 l2 l5 bW
  go_upto_region 3 with fail
  obtain ⟨pb, TE⟩ : ∃ b, W1.heap.size = b := ⟨_, rfl⟩
  obtain ⟨W2, hW2⟩ : ∃ E, W1.alloc (.cells cI 3) = E := ⟨_, rfl⟩
  rw [hW2, TE]
  have b2 : Below W1.heap.size W1 W2 := hW2 ▸ (Below.refl _ _).alloc (Nat.le_refl _) _
  have kp : W2.heap[pb]? = some (.cells cI 3 (0, 0)) := by rw [← TE, ← hW2]; exact heap_alloc_new _ _
  have IP := acD (show eL w W2 rb ib pb n (List.replicate n false) (List.replicate n aq) (List.replicate n 0) from ⟨BV.out.trans ((BW.out.trans (b2.mono BW.out.size)).mono BV.out.size), by have := BV.out.size; have := L.out; omega, by have := BV.out.size; have := L.out; omega, by have := BV.out.size; have := BW.out.size; omega, ((b2.block _ (ag K1.out)).trans K1.out).trans (by rw [NS.out]), ((b2.block _ (ag K2.out)).trans K2.out).trans (by rw [KT.out]), kp.trans (by rw [NQ.out]), by simp, by simp, by simp, fun r hr => by rw [(List.mem_replicate.1 hr).2]; exact R16.zero⟩)
  have UF := acD ((b2.block _ (by have := ag K4.out; have := BW.out.size; omega)).trans ((BW.out.block _ (ag K4.out)).trans K4.out))
  have QA := acD ((b2.block _ (ag K5.out)).trans K5.out)
  have L5 := acD (show w.heap.size < q5 by have := SV.out; have := L.out; omega)
  clear hW2 TE b2 kp mk2 mk3 mk4 NS KT NQ K1 K2 K5 BW L K4 BV SV
  obtain ⟨u1, Yj⟩ := IP.out.gO (t := 0) h0
  have c50 : W2.cell? ⟨q5, 0, none⟩ = some (.slice (some ⟨rb, 0, none⟩) n n) := cell_of_row _ _ _ _ _ _ QA.out
  have l5 : q5 < W2.heap.size := ag QA.out
  have lr : rb < W2.heap.size := IP.out.lt.1
  have dz : (0 : Int) < (n : Int) := by omega
  go_upto_region 4 with fail
  obtain ⟨W3, hW3⟩ : ∃ E, W2.setCell ⟨rb, 0, none⟩ (.bool true) = E := ⟨_, rfl⟩
  rw [hW3]
  have VE : q5 ≠ rb := aL QA.out IP.out.dZ abr
  have Rs : w.heap.size ≠ rb := aL UF.out IP.out.dZ abr
  have p8 := acD (show eL w W3 rb ib pb n ((List.replicate n false).set 0 true) (List.replicate n aq) (List.replicate n 0) from hW3 ▸ IP.out.Mr 0 true)
  have Sj := acD (show W3.heap[w.heap.size]? = some (.cells #[.slice none 0 0, .slice none 0 0, .slice none 0 0] 48 (0, 0)) by rw [← hW3]; exact (Below.heap_setCell _ _ _ _ (by show w.heap.size ≠ rb; exact Rs)).trans UF.out)
  have Ol := acD (show W3.heap[q5]? = some (.cells #[.slice (some ⟨rb, 0, none⟩) n n, .slice (some ⟨ib, 0, none⟩) n n, .slice none 0 0] 48 (0, 0)) by rw [← hW3]; exact (Below.heap_setCell _ _ _ _ (by show q5 ≠ rb; exact VE)).trans QA.out)
  clear hW3 u1 Yj c50 l5 lr IP UF QA VE Rs
  have c51 : W3.cell? ⟨q5, 1, none⟩ = some (.slice (some ⟨ib, 0, none⟩) n n) := cell_of_row _ _ _ _ _ _ Ol.out
  have l5 : q5 < W3.heap.size := ag Ol.out
  have li : ib < W3.heap.size := p8.out.lt.2.1
  refine aG 4 abp abp ?_
  simp only [acK, List.take_zero, acL, List.drop_zero]
  repeat (go_big_quiet_step ((go_at_call 28; exact Calls.ay (zj _))))
  refine wpQuiet_nil ?_
  rintro _ ⟨x1, rfl⟩
  have E6 := acD (show x1.w.there ib 0 32 by have := (p8.out.keep x1.h).there (t := 0) h0; rwa [Nat.zero_mul] at this)
  go_upto_region 5 with (refine wpList_store_mid rfl 61 _ _ rfl ib 0 (aa aq).toArray rfl rfl (by rw [List.size_toArray, ax, ak]; exact E6.out) (ra aI ak) (aj aq) ?_)
  obtain ⟨W4, Bp⟩ : ∃ E, x1.w.setCells ib 0 (aa aq) = E := ⟨_, rfl⟩
  (try rw [List.toList_toArray])
  rw [Bp]
  have Xq := acD (show BO w W4 q5 rb ib pb n (ct n) from by
    have h1 := (p8.out.keep x1.h).JB h0 R16.zero
    rw [Nat.zero_mul, Bp] at h1
    have Yx : q5 ≠ ib := aL Ol.out p8.out.eC abr
    have Te : w.heap.size ≠ ib := aL Sj.out p8.out.eC abr
    refine ⟨⟨by have : (List.replicate n aq).set 0 aq = List.replicate n aq := List.set_replicate_self; rw [this] at h1; exact h1, qP n, Db⟩, ?_, L5.out, ?_⟩
    · rw [← Bp, aR _ _ _ _ _ Te]; exact (x1.h.block _ (ag Sj.out)).trans Sj.out
    · rw [← Bp, aR _ _ _ _ _ Yx]; exact (x1.h.block _ (ag Ol.out)).trans Ol.out)
  have nC := acD (show (ep c G).length = n by unfold ep; rw [List.length_map]; exact oL.out)
  have HBO := acD (KC (c := c) (G := G) nH.out qp.out)
  clear Bp E6 c51 l5 li p8 Sj Ol L5
  go_wp2_with fail
  go_loopg [6, 7] (gH (ct n) n + 1) (fun gk a6 a7 wr => ∃ (s : AS) (b : Bool), a6 = .slice (some ⟨pb, 0, none⟩) n n ∧ a7 = .bool b ∧ gH s n + (if b = true then 1 else 0) ≤ gk ∧ BO w wr q5 rb ib pb n s ∧ (b = true → ∀ s', Ends (ep c G) s s' → Ends (ep c G) (ct n) s') ∧ (b = false → Ends (ep c G) (ct n) s))
  case atStart => exact ⟨ct n, true, rfl, rfl, by simp, Xq.out, fun _ s' h => h, fun h => by cases h⟩
  case round =>
    obtain ⟨s, b, rfl, rfl, DW, hA, hc1, hc2⟩ := hrel
    have HA := acD hA
    have yM := acD hc1
    have oM := acD hc2
    clear hA hc1 hc2 Xq
    cases b with
    | true =>
      have Vi := acD (show gH s n + 1 ≤ gk by simpa using DW)
      clear DW oM
      go_wp2_with fail
      obtain ⟨wo, DK⟩ : ∃ wo : World, wo = wr := ⟨_, rfl⟩
      subst DK
      go_loopw [6, 7, 8] (fun a6 a7 a8 wz => ∃ q : Nat, q ≤ n ∧ a6 = .slice (some ⟨pb, 0, none⟩) n n ∧ a8 = .int .i64 (q : Int) ∧ a7 = .bool (bQ (ep c G) s q).2 ∧ BO w wz q5 rb ib pb n (bQ (ep c G) s q).1) (fun _ _ a8 _ => n - (intOf a8).toNat)
      case atStart => exact ⟨0, by omega, rfl, rfl, rfl, HA.out⟩
      case round =>
        obtain ⟨q, hq, rfl, rfl, rfl, LN⟩ := hrel
        have je := acD LN
        clear LN
        by_cases hlt : q < n
        · have dl : decide ((q : Int) < (n : Int)) = true := decide_eq_true abo
          have dq : (q : Int) < (n : Int) := by omega
          obtain ⟨sq, G3⟩ : ∃ sq, bQ (ep c G) s q = sq := ⟨_, rfl⟩
          have QG := acD G3
          rw [G3] at je
          rw [G3]
          obtain ⟨sq, bq⟩ := sq
          dsimp only at je ⊢
          obtain ⟨x, hx⟩ : ∃ x, G[q]? = some x := ⟨_, List.getElem?_eq_getElem acs⟩
          obtain ⟨⟨f, t, hf, ht, hft, Lx⟩, Rt, hxx⟩ := qp.out x (List.mem_of_getElem? hx)
          have hgb : (ep c G).getD q ⟨[], []⟩ = ⟨dX c f (t - f), x.nx⟩ := by simp [List.getD, BJ (c := c) hx hf ht]
          have c50 : wr.cell? ⟨q5, 0, none⟩ = some (.slice (some ⟨rb, 0, none⟩) n n) := cell_of_row _ _ _ _ _ _ je.out.k5
          have l5 : q5 < wr.heap.size := ag je.out.k5
          have lr : rb < wr.heap.size := je.out.an.row.lt.1
          have t4 := (je.out.an.row.gO (t := q) hlt).1
          have LY := acD (zi je.out.an cv (.slice (some ⟨g, off, none⟩) n cap) none 0 0 N c XL.out G HLH.out oL.out abo hN nH.out q x hx f t hf ht hft Lx Rt hxx)
          have Su := acD (au je.out.k5)
          rcases mK : sq.reach.getD q false with _ | _
          · rw [mK] at t4
            have HST := acD (show bQ (ep c G) s (q + 1) = (sq, bq) by simp only [bQ]; rw [QG.out]; simp only; rw [mK]; simp)
            clear G3 hx mK hgb hf ht LY
            go_wp2_with fail
            go_roundw
            case rel => exact ⟨q + 1, by omega, rfl, by go_num, by rw [HST.out], by rw [HST.out]; exact je.out⟩
            case measure => simp [intOf]; omega
          · rw [mK] at t4
            have HST := acD (show bQ (ep c G) s (q + 1) = ((fS ⟨dX c f (t - f), x.nx⟩ q sq).1, bq || (fS ⟨dX c f (t - f), x.nx⟩ q sq).2) by simp only [bQ]; rw [QG.out]; simp only; rw [mK, if_pos rfl, hgb])
            obtain ⟨⟨s2, b2⟩, MQ⟩ : ∃ v, fS ⟨dX c f (t - f), x.nx⟩ q sq = v := ⟨_, rfl⟩
            rw [MQ] at LY HST
            clear G3 hx mK hgb MQ hf ht
            rcases bq with _ | _ <;> rcases b2 with _ | _
            all_goals
              go_wp2_with (first | (refine wpList_load_mid rfl _ _ rfl _ _ rfl [.slice (some ⟨rb, 0, none⟩) n n, .slice (some ⟨ib, 0, none⟩) n n, .slice none 0 0] _ Su.out Tryz.underlying48 rfl abp ?_) | (go_at_call 29; refine LY.out.mono ?_; rintro e w3 ⟨rfl, Oh, Nd⟩) | (refine wpList_store_row rfl 48 (.tmp 5) _ rfl q5 #[.slice (some ⟨rb, 0, none⟩) n n, .slice (some ⟨ib, 0, none⟩) n n, .slice none 0 0] rfl rfl 48 _ (je.out.to Oh Nd).k5 abp rfl abt ?_))
              go_roundw
              case rel => exact ⟨q + 1, by omega, rfl, by go_num, by rw [HST.out]; rfl, by rw [HST.out]; exact (je.out.to Oh Nd).row⟩
              case measure => simp [intOf]; omega
        · obtain rfl : q = n := by omega
          have dl : decide ((q : Int) < (q : Int)) = false := by simp
          have U4 := acD (oW HBO.out nC.out HA.out.an.kH q (Nat.le_refl _))
          have Jh := acD (show ((bQ (ep c G) s q).2 = true → ∀ s', Ends (ep c G) (bQ (ep c G) s q).1 s' → Ends (ep c G) (ct q) s') ∧ ((bQ (ep c G) s q).2 = false → Ends (ep c G) (ct q) (bQ (ep c G) s q).1) from
            ⟨fun h s' h2 => yM.out ab7 s' (Ends.more acy (by rw [nC.out]; exact h2)), fun h => yM.out ab7 _ (by
              have := Ends.done (B := ep c G) (s := s) acy
              rwa [nC.out] at this)⟩)
          go_wp2_with fail
          go_roundg (gH (bQ (ep c G) s q).1 q + (if (bQ (ep c G) s q).2 = true then 1 else 0))
          case measure =>
            obtain ⟨-, h1, h2⟩ := U4.out
            have h3 := Vi.out
            rcases Ph : (bQ (ep c G) s q).2 with _ | _
            · rw [h2 Ph]; simp; omega
            · have := h1 Ph; simp; omega
          case rel => exact ⟨_, _, rfl, rfl, Nat.le_refl _, je.out, Jh.out.1, Jh.out.2⟩
    | false =>
      have HE := acD (oM.out ab7)
      clear yM oM DW
      have Q6 := acD (show DR w wr q5 rb ib pb n s (.slice none 0 0) [] from ⟨HA.out.an, HA.out.k4, HA.out.l5, HA.out.k5, World.ownsRow_nil _ _ _ _⟩)
      obtain ⟨iP, RL, RO, RN, RM⟩ := info_parts infoP
      have Vk := acD (lW (B := ep c G) (s := s) (fun q b hb => by
        obtain ⟨x, hx, rfl⟩ := List.mem_map.1 (List.mem_of_getElem? hb)
        exact (qp.out x hx).nl))
      clear HA
      go_wp2_with fail
      obtain ⟨wo, DK⟩ : ∃ wo : World, wo = wr := ⟨_, rfl⟩
      subst DK
      go_loopw [10] (fun a10 wz => ∃ (q : Nat) (dv : Value), q ≤ n ∧ a10 = .int .i64 (q : Int) ∧ DR w wz q5 rb ib pb n s dv (cZ (ep c G) s q)) (fun a10 _ => n - (intOf a10).toNat)
      case atStart => exact ⟨0, _, by omega, rfl, Q6.out⟩
      case round =>
        clear Q6
        obtain ⟨q, dv, hq, rfl, hD⟩ := hrel
        have HD := acD hD
        clear hD
        by_cases hlt : q < n
        · have dl : decide ((q : Int) < (n : Int)) = true := decide_eq_true abo
          have dq : (q : Int) < (n : Int) := by omega
          obtain ⟨x, hx⟩ : ∃ x, G[q]? = some x := ⟨_, List.getElem?_eq_getElem acs⟩
          obtain ⟨⟨f, t, hf, ht, hft, Lx⟩, Rt, hxx⟩ := qp.out x (List.mem_of_getElem? hx)
          have hgb : (ep c G).getD q ⟨[], []⟩ = ⟨dX c f (t - f), x.nx⟩ := by simp [List.getD, BJ (c := c) hx hf ht]
          obtain ⟨e0, e1, nv, e2, I7⟩ := HGC.out q x hx
          obtain ⟨lo, hi, nx⟩ := x
          dsimp only at hf ht Rt hxx hgb e0 e1 I7
          subst hf ht
          obtain ⟨nA, cT, rfl, n1, n2, n4⟩ := I7
          unfold maxLen at n2
          obtain ⟨u, hu⟩ : ∃ u, nx.length = u := ⟨_, rfl⟩
          rw [hu] at e2 n1 n4 Rt
          obtain ⟨rq, N6⟩ : ∃ r, s.bH.getD q [] = r := ⟨_, rfl⟩
          have ZV := acD N6
          have RQ := acD (show R16 rq ∧ aC rq = true from N6 ▸ ⟨HD.out.an.row.Hr hlt, HD.out.an.JI q hlt⟩)
          have IY := acD (show cZ (ep c G) s (q + 1) = cZ (ep c G) s q ++ (if s.reach.getD q false = true then dO ⟨dX c f (t - f), nx⟩ q u rq else []) by rw [ni, hgb, ← hu, N6])
          have HDZ := acD (Ej c hft nx q)
          have HU := acD hu
          have SH := acD (And.intro e0 (And.intro e1 e2))
          have Ov := acD n4
          have HEE := acD (show ∀ (j : Nat) (W : World), j ≤ 1000000 → Below w.heap.size w W → Calls Tryz.prog 30 #[cv, .agg #[.int .i64 (f : Int), .int .i64 (t : Int), .slice nA u cT], .agg (aa rq).toArray, .int .i64 (j : Int)] W fun e w' => e = .returned (cM (mZ c f t u j rq)) ∧ Below W.heap.size W w' from fun j W hj hW =>
            uv cv N c f t hft Lx hN nH.out nA u cT abo j hj rq RQ.out.1 W (XL.out.Ay hW))
          have Vj := acD (show ∀ (j : Nat) (a : RG), mZ c f t u j rq = some a → R16 a ∧ aC a = true from fun j a e => Hy nH.out hft Lx RQ.out.1 RQ.out.2 e)
          have ZY := acD (Vk.out q)
          clear hx hxx hgb e0 e1 e2 n4 hu N6
          obtain ⟨rc, hrc⟩ : ∃ b, s.reach.getD q false = b := ⟨_, rfl⟩
          have UZ := acD hrc
          rw [hrc] at IY
          clear hrc
          go_wp2_with fail
          obtain ⟨wo, DK⟩ : ∃ wo : World, wo = wr := ⟨_, rfl⟩
          subst DK
          go_loopw [11] (fun a11 wz => ∃ (j : Nat) (dv2 : Value), j ≤ u ∧ a11 = .int .i64 (j : Int) ∧ DR w wz q5 rb ib pb n s dv2 (cZ (ep c G) s q ++ (if rc = true then dO ⟨dX c f (t - f), nx⟩ q j rq else []))) (fun a11 _ => u - (intOf a11).toNat)
          case atStart => exact ⟨0, dv, by omega, rfl, by rw [nj, ite_self, List.append_nil]; exact HD.out⟩
          case round =>
            clear HD
            obtain ⟨j, dv2, hj, rfl, hD⟩ := hrel
            have HD := acD hD
            clear hD
            have c50 : wr.cell? ⟨q5, 0, none⟩ = some (.slice (some ⟨rb, 0, none⟩) n n) := cell_of_row _ _ _ _ _ _ HD.out.k5
            have c51 : wr.cell? ⟨q5, 1, none⟩ = some (.slice (some ⟨ib, 0, none⟩) n n) := cell_of_row _ _ _ _ _ _ HD.out.k5
            have l5 : q5 < wr.heap.size := ag HD.out.k5
            have lr : rb < wr.heap.size := HD.out.an.row.lt.1
            have li : ib < wr.heap.size := HD.out.an.row.lt.2.1
            have t4 := (HD.out.an.row.gO (t := q) hlt).1
            rw [UZ.out] at t4
            have fZ := HD.out.an.row.aF
            have g0 := (fZ.cell (p := ⟨g, off + q * 3, none⟩) hg).trans SH.out.1
            have g1 := (fZ.cell (p := ⟨g, off + q * 3 + 1, none⟩) hg).trans SH.out.2.1
            have g2 := (fZ.cell (p := ⟨g, off + q * 3 + 2, none⟩) hg).trans SH.out.2.2
            have lg : g < wr.heap.size := by have := fZ.size; omega
            cases rc with
            | false =>
              have tv := acD (show DR w wr q5 rb ib pb n s dv2 (cZ (ep c G) s (q + 1)) by rw [IY.out]; exact HD.out)
              go_wp2_with fail
              go_roundw
              case rel => exact ⟨q + 1, dv2, by omega, by go_num, tv.out⟩
              case measure => simp [intOf]; omega
            | true =>
              by_cases hlt2 : j < u
              · have dl2 : decide ((j : Int) < (u : Int)) = true := decide_eq_true abo
                have dj : (j : Int) < (u : Int) := by omega
                obtain ⟨nb, fT, TH, hnb, Bo⟩ := Ov.out abo
                subst TH
                obtain ⟨tn, htn⟩ : ∃ tn, nx.getD j 0 = tn := ⟨_, rfl⟩
                have S6 := Bo j hlt2
                rw [htn] at S6
                obtain ⟨oE, LD⟩ : ∃ o, mZ c f t u j rq = o := ⟨_, rfl⟩
                have NM := acD (show dO ⟨dX c f (t - f), nx⟩ q (j + 1) rq = dO ⟨dX c f (t - f), nx⟩ q j rq ++ (if oE.isNone = true then [((q : Int), tn)] else []) by rw [HDZ.out j rq (by rw [HU.out]; exact hlt2), HU.out, LD, htn])
                obtain ⟨rE, LB⟩ : ∃ r, oE.getD aq = r := ⟨_, rfl⟩
                obtain ⟨cE, M7⟩ : ∃ r, oE.isSome = r := ⟨_, rfl⟩
                have QL := acD (Vj.out j)
                rw [LD] at QL
                have RE := acD (show R16 rE ∧ aC rE = true by
                  rw [← LB]
                  cases h3 : oE with
                  | none => exact ⟨R16.zero, gw⟩
                  | some a => exact QL.out a h3)
                have Q3 := acD (show ∀ W, Below wr.heap.size wr W → Calls Tryz.prog 30 #[cv, .agg #[.int .i64 (f : Int), .int .i64 (t : Int), .slice (some ⟨nb, fT, none⟩) u cT], .agg (aa rq).toArray, .int .i64 (j : Int)] W fun e w' => e = .returned (.tuple #[.agg (aa rE).toArray, .bool cE]) ∧ Below W.heap.size W w' from fun W hW => by
                  have := HEE.out j W abo (HD.out.an.row.aF.trans (hW.mono HD.out.an.row.aF.size))
                  rw [LD, fP, LB, M7] at this
                  exact this)
                have Q9 := acD M7
                have EM := acD (show wr.rangeAt ib (q * 32) (aa rq) from ZV.out ▸ HD.out.an.row.gJ hlt)
                have UI := acD (And.intro hnb S6)
                clear Bo S6 htn LD LB M7 fZ hnb
                go_wp2_with fail
                go_cut [13] from 82 to 95 (fun a13 wx => a13 = .bool cE ∧ Below wr.heap.size wr wx)
                case first =>
                  refine wp_region_held_drew (S := fun w' => Below wr.heap.size wr w' ∧ w'.rangeAt ib (q * 32) (aa rq)) abp ?_ (fun hHeld => ?_)
                  · have hk : Below wr.heap.size wr wr.drew := Below.drew (Below.refl _ _)
                    exact ⟨hk, cL EM.out hk li⟩
                  have hk : Below wr.heap.size wr wr.drew := Below.drew (Below.refl _ _)
                  obtain ⟨D0, qd⟩ : ∃ D, wr.drew = D := ⟨_, rfl⟩
                  rw [qd] at hk
                  rw [qd] at hHeld ⊢
                  clear qd
                  refine wpAnyH_take (i := 0) (oi := _) (v := ?_) rfl abp abp abp (fun _ _ _ h => h) (Or.inl ⟨by rfl, ?_⟩) hHeld ?_
                  rotate_left
                  · intro w' hSw
                    clear hSw
                    go_simp
                    (try with_reducible rfl)
                  (try simp only [acE, acF, acG, Act.put, acH, acI, acJ])
                  refine wpAnyH_take (i := 1) (oi := _) (v := ?_) rfl abp abp abp (fun _ _ _ h => h) (Or.inl ⟨by rfl, ?_⟩) hHeld ?_
                  rotate_left
                  · intro w' hSw
                    clear hSw
                    go_simp
                    (try with_reducible rfl)
                  (try simp only [acE, acF, acG, Act.put, acH, acI, acJ])
                  refine wpAnyH_take (i := 2) (oi := _) (v := ?_) rfl abp abp abp (fun _ _ _ h => h) (Or.inl ⟨by rfl, ?_⟩) hHeld ?_
                  rotate_left
                  · intro w' hSw
                    clear hSw
                    go_simp
                    (try with_reducible rfl)
                  (try simp only [acE, acF, acG, Act.put, acH, acI, acJ])
                  refine wpAnyH_take (i := 3) (oi := _) (v := ?_) rfl abp abp abp (fun _ _ _ h => h) (Or.inl ⟨by rfl, ?_⟩) hHeld ?_
                  rotate_left
                  · intro w' hSw
                    clear hSw
                    go_simp
                    (try with_reducible rfl)
                  (try simp only [acE, acF, acG, Act.put, acH, acI, acJ])
                  refine wpAnyH_take (i := 4) (oi := _) (v := ?_) rfl abp abp abp (fun _ _ _ h => h) (Or.inl ⟨by rfl, ?_⟩) hHeld ?_
                  rotate_left
                  · intro w' hSw
                    have s0 := (hSw.1.cell (p := ⟨g, off + q * 3, none⟩) lg).trans g0
                    have s1 := (hSw.1.cell (p := ⟨g, off + q * 3 + 1, none⟩) lg).trans g1
                    have s2 := (hSw.1.cell (p := ⟨g, off + q * 3 + 2, none⟩) lg).trans g2
                    clear hSw
                    go_simp
                    (try with_reducible rfl)
                  (try simp only [acE, acF, acG, Act.put, acH, acI, acJ])
                  refine wpAnyH_take (i := 5) (oi := _) (v := ?_) rfl abp abp abp (fun _ _ _ h => h) (Or.inl ⟨by rfl, ?_⟩) hHeld ?_
                  rotate_left
                  · intro w' hSw
                    clear hSw
                    go_simp
                    (try with_reducible rfl)
                  (try simp only [acE, acF, acG, Act.put, acH, acI, acJ])
                  refine wpAnyH_take (i := 6) (oi := _) (v := ?_) rfl abp abp abp (fun _ _ _ h => h) (Or.inl ⟨by rfl, ?_⟩) hHeld ?_
                  rotate_left
                  · intro w' hSw
                    have s1 := (hSw.1.cell (p := ⟨q5, 1, none⟩) l5).trans c51
                    clear hSw
                    go_simp
                    (try with_reducible rfl)
                  (try simp only [acE, acF, acG, Act.put, acH, acI, acJ])
                  refine wpAnyH_take (i := 7) (oi := _) (v := ?_) rfl abp abp abp (fun _ _ _ h => h) (Or.inl ⟨by rfl, ?_⟩) hHeld ?_
                  rotate_left
                  · intro w' hSw
                    clear hSw
                    go_simp
                    (try with_reducible rfl)
                  (try simp only [acE, acF, acG, Act.put, acH, acI, acJ])
                  refine wpAnyH_take (i := 8) (oi := _) (v := ?_) rfl abp abp abp (fun _ _ _ h => h) (Or.inl ⟨by rfl, ?_⟩) hHeld ?_
                  rotate_left
                  · intro w' hSw
                    clear hSw
                    go_simp
                    (try with_reducible rfl)
                  (try simp only [acE, acF, acG, Act.put, acH, acI, acJ])
                  refine wpAnyH_take (i := 9) (oi := _) (v := _) rfl abp abp abp (fun _ _ _ h => h) (yieldsIf_load_mid acr _ _ rfl _ _ rfl (aa rq) _ (fun w hSw => hSw.2) Tryz.underlying61 rfl (rn aI RQ.out.1.len)) hHeld ?_
                  (try simp only [acE, acF, acG, Act.put, acH, acI, acJ])
                  refine wpAnyH_take (i := 10) (oi := _) (v := ?_) rfl abp abp abp (fun _ _ _ h => h) (Or.inl ⟨by rfl, ?_⟩) hHeld ?_
                  rotate_left
                  · intro w' hSw
                    clear hSw
                    go_simp
                    (try with_reducible rfl)
                  (try simp only [acE, acF, acG, Act.put, acH, acI, acJ])
                  iterate 3
                    all_goals
                      repeat (first | (refine wpAnyH_take (i := 12) (oi := _) (v := ?_) rfl abp abu abu (fun _ _ _ h => h) (Or.inl ⟨by rfl, ?_⟩) hHeld ?_; rotate_left; focus (intro w' hSw; clear hSw; go_simp; (try with_reducible rfl))) | (refine wpAnyH_take (i := 13) (oi := _) (v := ?_) rfl abp abu abu (fun _ _ _ h => h) (Or.inl ⟨by rfl, ?_⟩) hHeld ?_; rotate_left; focus (intro w' hSw; clear hSw; go_simp; (try with_reducible rfl))) | (refine wpAnyH_take (i := 14) (oi := _) (v := ?_) rfl abp abu abu (fun _ _ _ h => h) (Or.inl ⟨by rfl, ?_⟩) hHeld ?_; rotate_left; focus (intro w' hSw; clear hSw; go_simp; (try with_reducible rfl))) | (refine wpAnyH_take (i := 17) (oi := _) (v := ?_) rfl abp abu abu (fun _ _ _ h => h) (Or.inl ⟨by rfl, ?_⟩) hHeld ?_; rotate_left; focus (intro w' hSw; clear hSw; go_simp; (try with_reducible rfl))))
                      (try simp only [acE, acF, acG, Act.put, acH, acI, acJ])
                      (first | refine wpAnyH_ready (rs := [11, 15]) abu aby ?_ | refine wpAnyH_ready (rs := [15]) abu aby ?_ | refine wpAnyH_ready (rs := [16]) abu aby ?_ | refine wpAnyH_ready (rs := [11]) abu aby ?_)
                      repeat' (first | exact AllReadyH.nil | refine AllReadyH.cons (o := _) rfl (fun K hK => ?_) ?_)
                    all_goals
                      first
                        | (rw [if_pos acr]
                           have Bk := fW (show aH D0 q9 61 aq from k9)
                           refine wp_store_mid _ _ _ rfl _ _ (aa rE).toArray rfl rfl aco (ra aI RE.out.1.len) (all_oneCell_toArray (fc rE)) ?_
                           clear Bk
                           have hk := Below.aX hk l9 0 (aa rE)
                           have k9 := gS (show aH D0 q9 61 aq from k9) ak RE.out.1.len
                           obtain ⟨D1, hV⟩ : ∃ V, D0.setCells q9 0 (aa rE) = V := ⟨_, rfl⟩
                           rw [List.toList_toArray, hV]
                           rw [hV] at hk k9
                           clear hV
                           obtain ⟨D0, hD⟩ : ∃ V, V = D1 := ⟨_, rfl⟩
                           subst hD)
                        | (go_simp
                           first
                             | (go_at_call 30
                                refine (((Q3.out _)) hk).mono ?_
                                rintro e D0 ⟨rfl, hb⟩
                                (try have k9 := (hb.block q9 (ag k9)).trans k9)
                                have hk := Below.trans hk (hb.mono hk.size)
                                clear hb)
                             | (obtain ⟨q9, hq⟩ : ∃ q, D0.heap.size = q := ⟨_, rfl⟩
                                obtain ⟨D1, hV⟩ : ∃ V, D0.alloc (.cells acM.toArray 61) = V := ⟨_, rfl⟩
                                rw [hV, hq]
                                have hb : Below D0.heap.size D0 D1 := hV ▸ (Below.refl _ _).alloc (Nat.le_refl _) _
                                have k9 : D1.heap[q9]? = some (.cells acM.toArray 61) := by rw [← hq, ← hV]; exact heap_alloc_new _ _
                                have l9 : wr.heap.size ≤ q9 := by rw [← hq]; exact hk.size
                                have hk := Below.trans hk (hb.mono hk.size)
                                clear hb hV hq
                                obtain ⟨D0, hD⟩ : ∃ V, V = D1 := ⟨_, rfl⟩
                                subst hD))
                      refine hK.out _ _ (⟨hk, cL EM.out hk li⟩) (fun hHeld => ?_)
                      clear hK K
                      (try simp only [acE, acF, acG, Act.put, acH, acI, acJ])
                  all_goals
                    repeat (first | (refine wpAnyH_take (i := 12) (oi := _) (v := ?_) rfl abp abu abu (fun _ _ _ h => h) (Or.inl ⟨by rfl, ?_⟩) hHeld ?_; rotate_left; focus (intro w' hSw; clear hSw; go_simp; (try with_reducible rfl))) | (refine wpAnyH_take (i := 13) (oi := _) (v := ?_) rfl abp abu abu (fun _ _ _ h => h) (Or.inl ⟨by rfl, ?_⟩) hHeld ?_; rotate_left; focus (intro w' hSw; clear hSw; go_simp; (try with_reducible rfl))) | (refine wpAnyH_take (i := 14) (oi := _) (v := ?_) rfl abp abu abu (fun _ _ _ h => h) (Or.inl ⟨by rfl, ?_⟩) hHeld ?_; rotate_left; focus (intro w' hSw; clear hSw; go_simp; (try with_reducible rfl))) | (refine wpAnyH_take (i := 17) (oi := _) (v := ?_) rfl abp abu abu (fun _ _ _ h => h) (Or.inl ⟨by rfl, ?_⟩) hHeld ?_; rotate_left; focus (intro w' hSw; clear hSw; go_simp; (try with_reducible rfl))))
                    refine wpAnyH_done abp ?_ _
                    clear hHeld
                  all_goals
                    go_wp2_with fail
                    go_meet
                    exact ⟨rfl, hk⟩
                case rest =>
                  obtain ⟨rfl, hk⟩ := hcut
                  obtain ⟨W1, hW⟩ : ∃ E : World, E = wc := ⟨_, rfl⟩
                  subst hW
                  have AW := acD (HD.out.keep hk)
                  clear hk g0 g1 g2 lg c50 c51 l5 lr li t4 EM Q3
                  cases oE with
                  | some a =>
                    obtain rfl : true = cE := Q9.out
                    have tv := acD (show DR w W1 q5 rb ib pb n s dv2 (cZ (ep c G) s q ++ (if true = true then dO ⟨dX c f (t - f), nx⟩ q (j + 1) rq else [])) by rw [NM.out]; simpa using AW.out)
                    go_wp2_with fail
                    go_roundw
                    case rel => exact ⟨j + 1, dv2, by omega, by go_num, tv.out⟩
                    case measure => simp [intOf]; omega
                  | none =>
                    obtain rfl : false = cE := Q9.out
                    obtain ⟨vA, vn, fj, rfl⟩ := AW.out.sl
                    obtain ⟨LL, DX⟩ : ∃ LL, cZ (ep c G) s q ++ (if true = true then dO ⟨dX c f (t - f), nx⟩ q j rq else []) = LL := ⟨_, rfl⟩
                    have QV := acD DX
                    have Uc : LL.length ≤ 1000 * q + j := by
                      rw [← DX, List.length_append, if_pos rfl]
                      have h1 := ZY.out
                      have h2 := mh ⟨dX c f (t - f), nx⟩ q j rq
                      omega
                    have Q5 := acD (show DR w W1 q5 rb ib pb n s (.slice vA vn fj) LL by rw [← DX, if_pos rfl]; simpa using AW.out)
                    clear AW
                    have AW := Q5
                    clear Q5
                    have E5 := acD (show cZ (ep c G) s q ++ dO ⟨dX c f (t - f), nx⟩ q (j + 1) rq = LL ++ [((q : Int), tn)] by
                      rw [NM.out, ← List.append_assoc, ← DX, if_pos rfl]
                      rfl)
                    clear DX
                    have fZ := AW.out.an.row.aF
                    have N1 := fZ.size
                    have g2 := (fZ.cell (p := ⟨g, off + q * 3 + 2, none⟩) hg).trans SH.out.2.2
                    have lg : g < W1.heap.size := by omega
                    have x0 := (fZ.cell (p := ⟨nb, fT + j, none⟩) UI.out.1).trans UI.out.2
                    have NY : nb < W1.heap.size := by have := UI.out.1; omega
                    have c52 : W1.cell? ⟨q5, 2, none⟩ = some (.slice vA vn fj) := cell_of_row _ _ _ _ _ _ AW.out.k5
                    have Zx : W1.frozen? ⟨q5, 2, none⟩ = false := by simp [World.frozen?, AW.out.k5]
                    have l5 : q5 < W1.heap.size := ag AW.out.k5
                    have QM := acD AW.out.C7
                    have HOW := acD AW.out.row
                    have Zn : LL.length + 1 ≤ 1000000000 := by omega
                    have ZO := acD N1
                    have yB := acD (show ∀ (W2 : World) (v2 : Value), ((W1.alloc (.cells #[.int .i64 (q : Int), .int .i64 tn] 89)).drew).grownBy W2 (Value.slice vA vn fj).ownBlock → W2.ownsRow w.heap.size 89 2 v2 (LL.length + 1) (vI LL ++ [.int .i64 (q : Int), .int .i64 tn]) → DR w (W2.setCell ⟨q5, 2, none⟩ v2) q5 rb ib pb n s v2 (LL ++ [((q : Int), tn)]) from fun W2 v2 hg2 ho2 =>
                      AW.out.app (y := ((q : Int), tn)) (Below.drew ((Below.refl _ _).alloc (Nat.le_refl _) _)) hg2 (by rw [rG]; exact ho2))
                    clear fZ N1 Uc
                    go_wp2_with fail
                    refine wp_region_noPanic ?_
                    go_region_law (refine gG rfl (.tmp 99) (.tmp 110) 40 rfl w.heap.size 89 iP _ 2 16 Tryz.underlying40 RL RO RN RM rfl abr (.slice vA vn fj) LL.length (vI LL) abX (World.ownsRow.alloc (World.ownsRow.drew HOW.out) _) ⟨W1.heap.size, 0, none⟩ 1 1 [.int .i64 (q : Int), .int .i64 tn] abX rfl (nt _ _ _ _) abt abv abo (by show w.heap.size ≤ (World.alloc _ _).heap.size; rw [World.size_alloc]; have := ZO.out; show w.heap.size ≤ W1.heap.size + 1; omega) ?_; intro v' W9 hown2 hgrow2 zW; obtain ⟨g9, Zu, rfl⟩ := ownsRow_succ hown2; have hc1 := hgrow2.cell (a := ⟨q5, 2, none⟩) (v := .slice vA vn fj) abF QM.out; have hf1 : W9.frozen? ⟨q5, 2, none⟩ = false := (World.frozen?_of_block (hgrow2.block q5 abA QM.out)).trans abF)
                    all_goals
                      have F1 := acD (yB.out W9 _ hgrow2 hown2)
                      clear hgrow2 hown2 zW hc1 hf1
                      refine NoPanic.normal ?_
                      go_wp2_with fail
                      go_roundw
                      case rel => exact ⟨j + 1, _, by omega, by go_num, by rw [E5.out]; exact F1.out⟩
                      case measure => simp [intOf]; omega
              · obtain rfl : j = u := by omega
                have dl2 : decide ((j : Int) < (j : Int)) = false := by simp
                have tv := acD (show DR w wr q5 rb ib pb n s dv2 (cZ (ep c G) s (q + 1)) by rw [IY.out]; exact HD.out)
                go_wp2_with fail
                go_roundw
                case rel => exact ⟨q + 1, dv2, by omega, by go_num, tv.out⟩
                case measure => simp [intOf]; omega
        · obtain rfl : q = n := by omega
          have dl : decide ((q : Int) < (q : Int)) = false := by simp
          obtain ⟨vA, vn, fj, rfl⟩ := HD.out.sl
          have ZG := acD (show wr.rangeAt q5 0 [.slice (some ⟨rb, 0, none⟩) q q, .slice (some ⟨ib, 0, none⟩) q q, .slice vA vn fj] from au HD.out.k5)
          go_wp2_with (first | (refine wpList_load_mid rfl _ _ rfl _ _ rfl [.slice (some ⟨rb, 0, none⟩) q q, .slice (some ⟨ib, 0, none⟩) q q, .slice vA vn fj] _ ZG.out Tryz.underlying48 rfl abp ?_) | (refine wpList_store_row rfl 48 (.tmp 4) _ rfl w.heap.size #[.slice (some ⟨rb, 0, none⟩) q q, .slice (some ⟨ib, 0, none⟩) q q, .slice vA vn fj] rfl rfl 48 _ HD.out.k4 abp rfl abt ?_))
          have Rs : w.heap.size ≠ rb := aL HD.out.k4 HD.out.an.row.dZ abr
          have Te : w.heap.size ≠ ib := aL HD.out.k4 HD.out.an.row.eC abr
          refine bodyPost_ret (eH (P := Tryz.prog) Tryz.results8 _ _ w.heap.size [.slice (some ⟨rb, 0, none⟩) q q, .slice (some ⟨ib, 0, none⟩) q q, .slice vA vn fj] _ rfl (au (setRow_heap _ _ _ _ _ _ HD.out.k4)) Tryz.underlying48 rfl abp) rfl ⟨⟨s, rb, ib, .slice vA vn fj, HE.out, rfl, ?_, ?_, HD.out.an.row.l1, HD.out.an.row.l2, HD.out.an.row.r16, ?_⟩, below_setRow HD.out.an.row.aF (Nat.le_refl _) _⟩
          · exact (setRow_other _ _ _ _ Rs.symm).trans HD.out.an.row.dZ
          · exact (setRow_other _ _ _ _ Te.symm).trans HD.out.an.row.eC
          · obtain ⟨A', cap', e1, e2, e3, e4⟩ := Ba HD.out.row
            refine ⟨A', cap', e1, e2, e3, fun h0 => ?_⟩
            obtain ⟨b', off', ea, eb, ec⟩ := e4 h0
            refine ⟨b', off', ea, by simp [World.setRow]; omega, fun i p hi => ?_⟩
            obtain ⟨c1', Us⟩ := ec i p hi
            have hnb : b' ≠ w.heap.size := by
              obtain ⟨cs, hcs⟩ := dW HD.out.row (show (Value.slice vA vn fj).ownBlock = some b' by rw [e1, ea]; rfl)
              exact aL hcs HD.out.k4 abr
            exact ⟨by rw [World.cell?_of_block (setRow_other _ _ _ _ hnb)]; exact c1', by rw [World.cell?_of_block (setRow_other _ _ _ _ hnb)]; exact Us⟩
end
end Go.Proofs.YtebklpnkcicpjaaGreatDoor
