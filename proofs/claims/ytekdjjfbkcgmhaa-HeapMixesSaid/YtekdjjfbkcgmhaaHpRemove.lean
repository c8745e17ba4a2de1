/-
  What is proved here: what (*Heap).Remove does (instance Item).
-/
import Derived.Test.YtekdjjfbkcgmhaaHpOrder
import Derived.Test.YtekdjjfbkcgmhaaHpSorted
namespace Go.Proofs.Ytekdjjfbkcgmhaa
open Go.RowKit Hp
set_option linter.unusedVariables false
set_option linter.unusedSimpArgs false

theorem remove_idle (p : Addr) (w : World) :
    CallsD Try.prog 46 #[.pointer (some p)] .returning w fun e u' w' => e = .returned (.tuple #[]) ∧ u' = .returning ∧ w' = w := by
  refine callsD_of_wpS Try.func46 rfl fun c₀ cs hu => ?_
  apply wpS_seq
  apply wpS_region
  simp [wpOpsS, go_sem, recoverD, hu, Try.ntmps46, Exit.thenS]
  refine wpS_cond (t := false) (by simp [Act.eval, Array.replicate]) ?_
  simp only [Bool.false_eq_true, if_false]
  refine wpS_of_wp (wp_skip ?_)
  cases c₀
  simp_all [bodyPostS, results, Try.results46]

/-- The function that says which items go, in worlds that extend 'w'. -/
structure Match (mid : FuncId) (caps : Array Value) (m : Int → Int → Bool) (w : World) : Prop where
  enters : ∀ (args : Array Value) (w : World), (callFunc mid args).run Try.prog w = .ok (.enter mid args) w
  calls : ∀ a b W, Below w.heap.size w W → Calls Try.prog mid (#[.agg #[.int .i64 a, .int .i64 b]] ++ caps) W fun e w' => e = .returned (.bool (m a b)) ∧ Below W.heap.size W w'
theorem eql_match (mid : FuncId) (caps : Array Value) (w : World) : (binOp .eql 53 (.func (.func mid) #[] caps) .nilFunc).run Try.prog w = .ok (.bool false) w := by kernel_rfl
/-- What stays. -/
def stay (m : Int → Int → Bool) (x : It) : Bool := !(m x.key x.name)
theorem filter_take_succ (p : It → Bool) (L : List It) (k : Nat) (h : k < L.length) : (L.take (k + 1)).filter p = (L.take k).filter p ++ (if p (at_ L k) = true then [at_ L k] else []) := by
  rw [List.take_succ_eq_append_getElem h, List.filter_append, at_lt h]
  congr 1
  by_cases c : p L[k] = true <;> simp [c]
theorem Same.filter {f : Int → Int} {L L' S : List It} (p : It → Bool) (h : Same f L S) (hh : Hp.Heap (lt_ f) L') (hp : L'.Perm (L.filter p)) : Same f L' (S.filter p) :=
  ⟨hh, hp.trans (h.perm.filter p), List.Pairwise.filter _ h.srt⟩

def RemovedS (f : Int → Int) (S : List It) (m : Int → Int → Bool) (nx : Int) (B hb : Nat) (fid : FuncId) (ov : Option Nat) (w : World) (e : Ending) (w' : World) : Prop :=
  e = .returned (.int .i64 ((S.length : Int) - ((S.filter (stay m)).length : Int))) ∧ ∃ ov', HpS w' B hb fid f (S.filter (stay m)) nx ov' ∧ Touch hb none w w' ∧ (ov' = none ∨ ∃ g, ov' = some g ∧ w.heap.size ≤ g)
set_option maxRecDepth 100000 in
set_option maxHeartbeats 4000000 in
theorem remove_s (hb : Nat) (fid : FuncId) (f : Int → Int) (HL : Less fid (lsOf f)) (mid : FuncId) (caps : Array Value) (m : Int → Int → Bool) (S : List It) (hlen : S.length ≤ 1000) (B : Nat) (nx : Int) (ov : Option Nat) (w : World) (hB : B ≤ w.heap.size) (HM : Match mid caps m w) (H : HpS w B hb fid f S nx ov) :
    Calls Try.prog 28 #[.pointer (some ⟨hb, 0, none⟩), .func (.func mid) #[] caps] w (RemovedS f S m nx B hb fid ov w) := by
  have hmf : ∀ (fn : Fn) (first cap : Array Value) (w : World), (Instr.makeFunc fn first cap).run Try.prog w = .ok (.func fn first cap) w := fun _ _ _ _ => rfl
  have heq := eql_match mid caps
  have hen := HM.enters
  have HMC := Lib.hid HM.calls
  obtain ⟨i1, hi1, hy0, hy1, hy2⟩ := info_parts infoT
  obtain ⟨v, L, hp, hov, hs⟩ := H.ex
  obtain ⟨h1, h2, h3, h4, h5, h6⟩ := hp.cells
  have hl := hs.length
  obtain ⟨av, cap, rfl⟩ := own_len hp.row
  have hlL : L.length ≤ 1000 := by omega
  have HP := Lib.hid hp
  have HS := Lib.hid hs
  have HLn := Lib.hid hl
  clear hp hs hl hov H HM
  go_enter_defers Try.func28, Try.ntmps28
  go_upto_region 4 with (go_at_call 36; refine (usable_yes hb fid _ (by simp [go_sem, *])).mono ?_; rintro e _ ⟨rfl, rfl⟩)
  obtain ⟨V, hV⟩ : ∃ V, w.alloc (Obj.cells #[.int .i64 0] 3) = V := ⟨_, rfl⟩
  have hVr := alloc_new w (Obj.cells #[.int .i64 0] 3)
  have hVb : Below w.heap.size w (w.alloc (Obj.cells #[.int .i64 0] 3)) := (Below.refl _ _).alloc (Nat.le_refl _) _
  have hVp := HP.out.alloc (Obj.cells #[.int .i64 0] 3)
  have hVs : (w.alloc (Obj.cells #[.int .i64 0] 3)).heap.size = w.heap.size + 1 := by simp
  rw [hV] at hVr hVb hVp hVs ⊢
  have HVr := Lib.hid hVr
  have HVb := Lib.hid hVb
  have HVp := Lib.hid hVp
  have HVs := Lib.hid hVs
  have z0 : w.heap.size < V.heap.size := by omega
  clear hVr hVb hVp hVs hV h1 h2 h3 h4 h5
  obtain ⟨h1, h2, h3, h4, h5, h6'⟩ := HVp.out.cells
  obtain ⟨wm, hr, hom, hgm⟩ := run_make_own (P := Try.prog) V V.heap.size 63 67 i1 _ 3 Try.underlying63 hi1 hy0 hy1 .i64 .i64 L.length (by rw [hy2]; omega) (by unfold maxLen; omega) (Nat.le_refl _)
  have h1m := hgm.cell (a := ⟨hb, 1, none⟩) h2 (by simp)
  have HBm := Lib.hid (show Below V.heap.size V wm from (Below.refl _ _).grown hgm (Nat.le_refl _) (fun k hk => by cases hk))
  have HOm := Lib.hid hom
  clear hom hgm
  go_wp2_with fail
  go_loopw [5, 7, 29] (fun v a i wr => ∃ k : Nat, k ≤ L.length ∧ i = .int .i64 (k : Int) ∧ wr.ownsRow V.heap.size 67 3 v ((L.take k).filter (stay m)).length (flat ((L.take k).filter (stay m))) ∧ Below V.heap.size V wr) (fun _ _ i _ => L.length - (intOf i).toNat)
  case atStart => exact ⟨0, Nat.zero_le _, rfl, HOm.out, HBm.out⟩
  case round =>
    clear HBm HOm hr h1m h1 h2 h3 h4 h5
    obtain ⟨k, hk, rfl, hown, hB'⟩ := hrel
    have HO := Lib.hid hown
    have HB := Lib.hid hB'
    have zr := hB'.size
    have hKl : ((L.take k).filter (stay m)).length ≤ k := Nat.le_trans (List.length_filter_le _ _) (by simp; omega)
    clear hown hB'
    by_cases hlt : k < L.length
    · obtain ⟨g, cap', hv, _, hgs, _, _, _, hcs⟩ := own_items HVp.out.row (by omega)
      simp only [Value.slice.injEq, true_and] at hv
      obtain ⟨rfl, rfl⟩ := hv
      obtain ⟨f1, f2, f3⟩ := hcs k hlt
      rw [← HB.out.cell (p := ⟨g, k * 3, none⟩) hgs] at f1
      rw [← HB.out.cell (p := ⟨g, k * 3 + 1, none⟩) hgs] at f2
      rw [← HB.out.cell (p := ⟨g, k * 3 + 2, none⟩) hgs] at f3
      clear hcs
      have FT := Lib.hid (filter_take_succ (stay m) L k hlt)
      obtain ⟨x, hx⟩ : ∃ x, at_ L k = x := ⟨_, rfl⟩
      rw [hx] at f1 f2 f3 FT
      clear hx
      have hgr : g < wr.heap.size := by omega
      go_upto_region 8 with fail
      have KX := alloc_new wr (Obj.cells #[.int .i64 x.key, .int .i64 x.name, .int .i64 x.ord] 67)
      have hBx : Below w.heap.size w (wr.alloc (Obj.cells #[.int .i64 x.key, .int .i64 x.name, .int .i64 x.ord] 67)) := (HVb.out.trans (HB.out.mono (by omega))).alloc (by omega) _
      have HBx := Lib.hid hBx
      have HKX := Lib.hid KX
      clear hBx KX
      cases ms : m x.key x.name
      · have MS := Lib.hid ms
        have SM := Lib.hid (show stay m x = true by simp [stay, ms])
        clear ms
        go_wp2_with fail
        refine (lit_of (HMC.out x.key x.name _ HBx.out) MS.out).mono ?_
        rintro e W1 ⟨rfl, hW1⟩
        have kx := ext_block ⟨W1, hW1⟩ HKX.out
        simp only at kx
        have y1 : W1.cell? ⟨wr.heap.size, 0, none⟩ = some (.int .i64 x.key) := by simp [World.cell?, kx]
        have y2 : W1.cell? ⟨wr.heap.size, 1, none⟩ = some (.int .i64 x.name) := by simp [World.cell?, kx]
        have y3 : W1.cell? ⟨wr.heap.size, 2, none⟩ = some (.int .i64 x.ord) := by simp [World.cell?, kx]
        have y4 := lt_of_block kx
        have ho := own_ext ⟨W1, hW1⟩ (HO.out.alloc (Obj.cells #[.int .i64 x.key, .int .i64 x.name, .int .i64 x.ord] 67))
        simp only at ho
        have hB1 : Below V.heap.size V W1 := (HB.out.alloc zr _).trans (hW1.mono (by simp; omega))
        have HB1 := Lib.hid hB1
        clear kx hB1 hW1 f1 f2 f3
        have zw : V.heap.size ≤ W1.heap.size := HB1.out.size
        go_wp2_with (at_builtin; refine wpList_append_own _ rfl (.tmp 38) (.tmp 40) 63 rfl V.heap.size 67 i1 _ 3 24 Try.underlying63 hi1 hy0 hy1 hy2 rfl (by decide) _ _ _ rfl (ho.alloc _) ⟨W1.heap.size, 0, none⟩ 1 1 x.cells rfl rfl (cells_new _ _ _) (one_cells x) (by unfold maxLen; omega) (by omega) (by simp; omega) ?_; intro v' W' hown' hgrow _)
        go_roundw
        case rel =>
          refine ⟨k + 1, by omega, by go_num, ?_, (HB1.out.alloc zw _).grown hgrow (by simp; omega) (fun q hq => (ho.lt q hq).1)⟩
          rw [FT.out, SM.out, if_pos rfl, List.length_append, flat_append]
          simpa [flat] using hown'
        case measure => simp [intOf]; omega
      · have MS := Lib.hid ms
        have SM := Lib.hid (show stay m x = false by simp [stay, ms])
        clear ms
        go_wp2_with fail
        refine (lit_of (HMC.out x.key x.name _ HBx.out) MS.out).mono ?_
        rintro e W1 ⟨rfl, hW1⟩
        have ho := own_ext ⟨W1, hW1⟩ (HO.out.alloc (Obj.cells #[.int .i64 x.key, .int .i64 x.name, .int .i64 x.ord] 67))
        simp only at ho
        have hB1 : Below V.heap.size V W1 := (HB.out.alloc zr _).trans (hW1.mono (by simp; omega))
        have HB1 := Lib.hid hB1
        have HO1 := Lib.hid ho
        clear hB1 hW1 f1 f2 f3 ho
        go_wp2_with fail
        go_roundw
        case rel =>
          refine ⟨k + 1, by omega, by go_num, ?_, HB1.out⟩
          rw [FT.out, SM.out, if_neg (by simp), List.append_nil]
          exact HO1.out
        case measure => simp [intOf]; omega
    · obtain rfl : k = L.length := by omega
      rw [List.take_length] at HO hKl
      obtain ⟨K, hK⟩ : ∃ K, L.filter (stay m) = K := ⟨_, rfl⟩
      rw [hK] at HO hKl
      have HK := Lib.hid hK
      clear hK
      have hp1 := (HVp.out.ext ⟨wr, HB.out⟩).cells
      simp only at hp1
      obtain ⟨h1, h2, h3, h4, h5, h7⟩ := hp1
      obtain ⟨kv, kc, rfl⟩ := own_len HO.out
      have hpr : HpAt (wr.alloc (Obj.cells #[.func (.func fid) #[] #[], .slice kv K.length kc, .int .i64 0] 65)) V.heap.size wr.heap.size fid (.slice kv K.length kc) K 0 := ⟨alloc_new _ _, HO.out.alloc _⟩
      have HPR := Lib.hid hpr
      clear hpr
      go_upto_region 14 with (go_at_call 47; refine (order_any wr.heap.size fid (lsOf f) HL (ord_lt f) K (by omega) V.heap.size _ 0 _ HPR.out).mono ?_; rintro e W1 ⟨rfl, L', hp', hperm, hheap, ht⟩)
      have hB1 : Below V.heap.size V W1 := (HB.out.alloc zr _).trans (ht.below zr (by simp; omega) (fun q hq => (HO.out.lt q hq).1))
      have hb1 := HVp.out.ext ⟨W1, hB1⟩
      have hr1 := ext_block ⟨W1, hB1⟩ HVr.out
      simp only at hb1 hr1
      clear h1 h2 h3 h4 h5 h7
      obtain ⟨h1, h2, h3, h4, h5, h7⟩ := hb1.cells
      obtain ⟨_, c2, _, _, _, c6⟩ := hp'.cells
      have r1 : W1.cell? ⟨w.heap.size, 0, none⟩ = some (.int .i64 0) := by simp [World.cell?, hr1]
      have r2 : W1.frozen? ⟨w.heap.size, 0, none⟩ = false := by simp [World.frozen?, hr1]
      have r3 := lt_of_block hr1
      have hne1 : hb ≠ w.heap.size := by omega
      have hne2 : w.heap.size ≠ hb := by omega
      have HW1 := Lib.hid hB1
      have Hb1 := Lib.hid hb1
      have Hp' := Lib.hid hp'
      have Hpm := Lib.hid hperm
      have Hht := Lib.hid ht
      have Hhp := Lib.hid hheap
      clear hB1 hb1 hr1 hp' hperm ht hheap
      go_wp2_with fail
      refine leaves_cons (f := 46) (args := #[.pointer (some ⟨w.heap.size, 0, none⟩)]) (by simp) (by simp [go_sem]) ?_
      refine (remove_idle _ _).mono ?_
      rintro e u' w'' ⟨rfl, rfl, rfl⟩
      refine ⟨.int .i64 ((L.length : Int) - (K.length : Int)), by simp [results, Try.results28, go_sem, *], ?_⟩
      have hKS : (S.filter (stay m)).length = K.length := by rw [← HK.out]; exact (HS.out.perm.filter _).length_eq.symm
      have hrow : ∀ k, (Value.slice kv K.length kc).ownBlock = some k → V.heap.size ≤ k := fun k hk => (HO.out.lt k hk).1
      refine ⟨by rw [hKS, ← HLn.out], (Value.slice kv K.length kc).ownBlock, ⟨⟨.slice kv K.length kc, L', ⟨?_, ?_⟩, rfl, HS.out.filter (stay m) Hhp.out (by rw [HK.out]; exact Hpm.out)⟩⟩, ?_, ?_⟩
      · rw [heap_setCell_other _ ⟨w.heap.size, 0, none⟩ hb _ (by simpa using hne1)]
        have := heap_setCell_same W1 hb 1 _ _ (.slice kv K.length kc) Hb1.out.blk
        simpa using this
      · refine ownsRow_setCell_other (ownsRow_setCell_other (own_low Hp'.out.row (by omega)) (fun e => ?_) _) (fun e => ?_) _
        · have := hrow _ e; simp at this; omega
        · have := hrow _ e; simp at this; omega
      · have t := HVb.out.trans (HW1.out.mono (by omega))
        refine ⟨t.os, t.tape, t.output, by have := t.size; simp; omega, fun q hq e1 e2 => ?_⟩
        rw [heap_setCell_other _ ⟨w.heap.size, 0, none⟩ q _ (by simp; omega), heap_setCell_other _ ⟨hb, 1, none⟩ q _ (by simpa using e1)]
        exact t.block q hq
      · cases e : (Value.slice kv K.length kc).ownBlock with
        | none => exact .inl rfl
        | some q => exact .inr ⟨q, rfl, by have := hrow q e; omega⟩

end Go.Proofs.Ytekdjjfbkcgmhaa
