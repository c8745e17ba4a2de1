/-
  What is proved here: parts rVs.
-/
import Derived.Test.YtebklpnkcicpjaaGreatDoorXa
import Derived.Test.YtebklpnkcicpjaaGreatDoorXu
import Derived.BigRegion
import Derived.Deep.RegionHeld3
namespace Go.Proofs.YtebklpnkcicpjaaGreatDoor
set_option linter.unusedVariables false
set_option linter.unusedSimpArgs false
set_option maxRecDepth 100000
set_option maxHeartbeats 8000000
section
open Go.RowKit
theorem FM {c : Nat → aZ} {f k N : Nat} (hop : ∀ i, i < N → 0 ≤ (c i).op) (h : f + k ≤ N) : ∀ i ∈ dX c f k, 0 ≤ i.op := fun i hi => by
  obtain ⟨j, hj, rfl⟩ := List.mem_map.1 hi
  have := List.mem_range.1 hj
  exact hop _ abo
theorem Hy {c : Nat → aZ} {f t N m j : Nat} (hop : ∀ i, i < N → 0 ≤ (c i).op) (hft : f < t) (Lx : t ≤ N) {r a : RG} (hr : R16 r) (hp : aC r = true) (h : mZ c f t m j r = some a) : R16 a ∧ aC a = true := by
  unfold mZ at h
  cases h2 : cQ (dX c f (t - f)) r with
  | none => rw [h2] at h; cases h
  | some b =>
    rw [h2] at h
    have ho := FM hop (show f + (t - f) ≤ N by omega)
    have h3 := jK ho hr h2
    have h4 := qU ho hr hp h2
    have h0 := hop (t - 1) abo
    exact ⟨lp h3 h, xZ h0 h3 h4 h⟩
theorem wW (c : Nat → aZ) {f t : Nat} (h : f < t) (nx : List Int) : AB.last ⟨dX c f (t - f), nx⟩ = c (t - 1) := by
  unfold AB.last dX
  simp only [List.length_map, List.length_range]
  rw [List.getD, List.getElem?_map, List.getElem?_range abo]
  simp only [Option.map_some, Option.getD_some]
  congr 1
  omega
theorem Fq (c : Nat → aZ) {f t k : Nat} (h : f < t) (nx : List Int) (s : AS) : Fs nx (fun j => mZ c f t nx.length j (gJ s k)) s nx.length = fS ⟨dX c f (t - f), nx⟩ k s := by
  have h1 := Jm (c (t - 1)) nx s (cQ (dX c f (t - f)) (gJ s k)) nx.length
  unfold mZ fS
  rw [h1, wW c h]
  rfl
theorem wP {s : AS} {t : Nat} {r : RG} (h : s.reach.getD t false = false) : cy s t (some r) = (⟨s.reach.set t true, s.bH.set t r, s.rep⟩, true) := by unfold cy; simp only; rw [if_pos h]
theorem Cw {s : AS} {t : Nat} {r : RG} (h : s.reach.getD t false = true) (h2 : bF (s.bH.getD t []) r = s.bH.getD t []) : cy s t (some r) = (s, false) := by
  unfold cy; simp only; rw [if_neg (by rw [h]; simp), if_pos h2]
theorem uk {s : AS} {t : Nat} {r : RG} (h : s.reach.getD t false = true) (h2 : ¬ bF (s.bH.getD t []) r = s.bH.getD t []) : cy s t (some r) = (⟨s.reach, s.bH.set t (if 2 ≤ s.rep.getD t 0 then dG (s.bH.getD t []) (bF (s.bH.getD t []) r) else bF (s.bH.getD t []) r), s.rep.set t (s.rep.getD t 0 + 1)⟩, true) := by
  unfold cy; simp only; rw [if_neg (by rw [h]; simp), if_neg h2]
theorem wI {ops : Array Oper} {C : World → Prop} {Q : Act → Prop} {a : Act} {op : Oper} {rest : List Oper} (hw : Region.wanted op (yielded ops a.tmps) = true) (x y : Operand) (z : TypeId) (ho : op.op = .binOp .eql 61 x y z)
    (p q : RG) (hp : p.length = 16) (hq : q.length = 16) (b : Bool) (hb : decide (p = q) = b) (hx : a.eval x = .agg (aa p).toArray) (hy : a.eval y = .agg (aa q).toArray) (h : wpQuiet Tryz.prog ops C Q rest (a.put op.dst (.bool b))) : wpQuiet Tryz.prog ops C Q (op :: rest) a :=
  BigFrame.wpQuiet_want hw fun K hK => ⟨.bool b, fun w hC => by
    unfold Oper.quietAt execOp
    have h1 : (eqGuard .eql 61 x y (.agg (aa p).toArray) (.agg (aa q).toArray)).run Tryz.prog w = .ok () w := run_eqGuard_agg _ _ _ _ _ _ _ abp
    have h2 := F5 hp hq w
    rw [hb] at h2
    simp only [ho, hx, hy, Sem.run_bind, Sem.run_map, h1, Result.andThen_ok, h2, Sem.run_pure]
    exact ⟨rfl, rfl⟩, hK _ h⟩
structure Qq (S : Nat → Prop) (w U : World) (q : Nat) (rs : Array Value) (now : RG) : Prop where
  fr : Fr S w U
  k7 : U.heap[w.heap.size]? = some (.cells rs 48 (0, 0))
  k10 : U.heap[w.heap.size + 1]? = some (.cells #[.slice none 0 0, .slice none 0 0, .slice none 0 0] 48 (0, 0))
  lq : w.heap.size + 1 < q
  k14 : aH U q 61 now
theorem Qq.keep {S : Nat → Prop} {w U W : World} {q : Nat} {rs : Array Value} {now : RG} (h : Qq S w U q rs now) (b : Fr S U W) (hS : ∀ k, S k → k < w.heap.size) : Qq S w W q rs now := by
  have hq := h.lq
  have n1 : ¬ S w.heap.size := fun h1 => by have := hS _ h1; omega
  have n2 : ¬ S (w.heap.size + 1) := fun h1 => by have := hS _ h1; omega
  have n3 : ¬ S q := fun h1 => by have := hS _ h1; omega
  exact ⟨h.fr.trans b, (b.block _ (ag h.k7) n1).trans h.k7, (b.block _ (ag h.k10) n2).trans h.k10, hq, (b.block _ h.k14.lt n3).trans h.k14⟩
theorem Np {V w : World} {rb ib pb n : Nat} {s : AS} (h : yF V w rb ib pb n s) : ∀ k, uh rb ib pb k → k < w.heap.size := fun k hk => by
  obtain ⟨a, b, c⟩ := h.row.lt
  rcases hk with rfl | rfl | rfl <;> assumption
theorem yF.first {V w : World} {rb ib pb n t : Nat} {s : AS} {r : RG} (h : yF V w rb ib pb n s) (ht : t < n) (hr : R16 r ∧ aC r = true) (hf : s.reach.getD t false = false) :
    yF V ((w.setCell ⟨rb, t, none⟩ (.bool true)).setCells ib (t * 32) (aa r)) rb ib pb n (cy s t (some r)).1 ∧ Fr (uh rb ib pb) w ((w.setCell ⟨rb, t, none⟩ (.bool true)).setCells ib (t * 32) (aa r)) := by
  have h1 := (h.row.Mr t true).JB ht hr.1
  have h2 := (gW h.kH ht (some r) (fun a e => by cases e; exact hr.1)).1
  have h3 := h.JI.step h.kH ht (o := some r) (fun a e => by cases e; exact hr)
  rw [wP hf] at h2 h3 ⊢
  exact ⟨⟨h1, h2, h3⟩, Fr.setCells (Fr.set (Fr.refl _ _) _ (.inl (.inl rfl))) _ (.inl (.inr (.inl rfl)))⟩
theorem yF.more {V w w' : World} {rb ib pb n t : Nat} {s : AS} {r nr : RG} {q : Int} (h : yF V w rb ib pb n s) (ht : t < n) (hr : R16 r ∧ aC r = true) (hf : s.reach.getD t false = true) (hne : ¬ bF (s.bH.getD t []) r = s.bH.getD t [])
    (hq : q = s.rep.getD t 0 + 1) (hn : nr = if 2 ≤ s.rep.getD t 0 then dG (s.bH.getD t []) (bF (s.bH.getD t []) r) else bF (s.bH.getD t []) r) (hw : eL V w' rb ib pb n s.reach (s.bH.set t nr) (s.rep.set t q)) :
    yF V w' rb ib pb n (cy s t (some r)).1 := by
  have h2 := (gW h.kH ht (some r) (fun a e => by cases e; exact hr.1)).1
  have h3 := h.JI.step h.kH ht (o := some r) (fun a e => by cases e; exact hr)
  rw [uk hf hne] at h2 h3 ⊢
  subst hq hn
  exact ⟨hw, h2, h3⟩
theorem Fr.setRow {S : Nat → Prop} {w w' : World} {b : Nat} (h : Fr S w w') (cs : Array Value) (hp : S b ∨ w.heap.size ≤ b) : Fr S w (w'.setRow b cs) := by
  have hb := below_setRow (Below.mono (Below.refl w'.heap.size w') (show 0 ≤ w'.heap.size by omega)) (Nat.zero_le b) cs
  refine ⟨hb.os.trans h.os, hb.tape.trans h.tape, hb.output.trans h.output, Nat.le_trans h.size hb.size, fun k hk hn => ?_⟩
  rw [setRow_other _ _ _ _ (by rintro rfl; rcases hp with hp | hp; exact hn hp; omega)]
  exact h.block k hk hn
theorem eL.GN {V w w' : World} {rb ib pb n : Nat} {re : List Bool} {bH : List RG} {rep : List Int} {S : Nat → Prop} (h : eL V w rb ib pb n re bH rep) (hf : Fr S w w') (h1 : ¬ S rb) (h2 : ¬ S ib) (h3 : ¬ S pb) (hV : ∀ k, S k → V.heap.size ≤ k) : eL V w' rb ib pb n re bH rep := by
  obtain ⟨a, b, c⟩ := h.lt
  exact ⟨h.aF.trans (hf.below h.aF.size hV), h.rV, h.iV, h.pV, (hf.block _ a h1).trans h.dZ, (hf.block _ b h2).trans h.eC, (hf.block _ c h3).trans h.cP, h.l1, h.l2, h.l3, h.r16⟩
theorem nO {P : Program} {fn : Func} {a u v : Tmp} {ty : TypeId} (h : fn.results = #[.cell a ty, .tmp u, .tmp v]) (tmps : Array Value) (w : World) (b : Nat) (cs : List Value) (d : TypeDesc) (ha : tmps.getD a undef = .pointer (some ⟨b, 0, none⟩)) (hc : w.rangeAt b 0 cs)
    (hu : P.underlying ty = some d) (hd : d.isRow = true) (hi : (P.info? ty).map (·.size) = some cs.length) : (results fn tmps).run P w = .ok (.tuple #[.agg cs.toArray, tmps.getD u undef, tmps.getD v undef]) w := by
  have h1 := run_loadVar_mid (P := P) w b 0 ty cs d hc hu hd hi
  simp only [results, h]
  simp only [List.mapM_toArray, List.mapM_cons, List.mapM_nil, ha, Sem.run_bind, Sem.run_pure, iE, Result.andThen_ok, h1, Sem.run_map, pure_bind, bind_pure]
  simp [h1, iE]
theorem zi {V w : World} {rb ib pb n : Nat} {s : AS} (h : yF V w rb ib pb n s) (cv lv : Value) (dA : Option Addr) (dn dc : Nat) (N : Nat) (c : Nat → aZ) (HI : jZ V cv N c) (G : List dL) (HL : gh V lv G) (hG : G.length = n) (hn : n ≤ 1000000) (hN : N ≤ 1000000) (hop : ∀ i, i < N → 0 ≤ (c i).op) (k : Nat) (x : dL) (hx : G[k]? = some x) (f t : Nat) (hf : x.lo = (f : Int)) (ht : x.hi = (t : Int)) (hft : f < t) (Lx : t ≤ N) (hnl : x.nx.length ≤ 1000) (gQ : ∀ y ∈ x.nx, 0 ≤ y ∧ y < (n : Int)) :
    Calls Tryz.prog 29 #[cv, lv, .agg #[.slice (some ⟨rb, 0, none⟩) n n, .slice (some ⟨ib, 0, none⟩) n n, .slice dA dn dc], .slice (some ⟨pb, 0, none⟩) n n, .int .i64 (k : Int)] w fun e w' => e = .returned (.tuple #[.agg #[.slice (some ⟨rb, 0, none⟩) n n, .slice (some ⟨ib, 0, none⟩) n n, .slice dA dn dc], .slice (some ⟨pb, 0, none⟩) n n, .bool (fS ⟨dX c f (t - f), x.nx⟩ k s).2]) ∧ yF V w' rb ib pb n (fS ⟨dX c f (t - f), x.nx⟩ k s).1 ∧ Fr (uh rb ib pb) w w' := by
  have hkn : k < n := by rw [← hG]; exact (List.getElem?_eq_some_iff.1 hx).1
  rw [← Fq c hft x.nx s]
  obtain ⟨A, cap, hlv, hl1, hl2, hl4⟩ := HL
  obtain ⟨g, off, rfl, hg, hc⟩ := hl4 abo
  obtain ⟨g0, g1, nv, g2, I7⟩ := hc k x hx
  obtain ⟨lo, hi, nx⟩ := x
  dsimp only at hf ht hnl gQ g0 g1 I7 ⊢
  subst hf ht
  obtain ⟨nA, cT, rfl, hn1, hn2, hn4⟩ := I7
  rw [hG] at hlv hl1
  subst hlv
  unfold maxLen at hl2 hn2
  obtain ⟨u, hu⟩ : ∃ u, nx.length = u := ⟨_, rfl⟩
  rw [hu] at hn1 hn4 hnl g2 ⊢
  obtain ⟨now, J1⟩ : ∃ r, gJ s k = r := ⟨_, rfl⟩
  have NW := acD (show R16 now ∧ aC now = true from J1 ▸ ⟨h.row.Hr hkn, h.JI k hkn⟩)
  have Z9 := acD (show (s.bH.getD k []) = now from J1)
  rw [J1]
  obtain ⟨E, hE⟩ : ∃ E, (fun j => mZ c f t u j now) = E := ⟨_, rfl⟩
  rw [hE]
  have HE := acD (show ∀ j : Nat, mZ c f t u j now = E j from fun j => congrFun hE j)
  have oI := acD (show ∀ (j : Nat) (W : World), j ≤ 1000000 → Below V.heap.size V W → Calls Tryz.prog 30 #[cv, .agg #[.int .i64 (f : Int), .int .i64 (t : Int), .slice nA u cT], .agg (aa now).toArray, .int .i64 (j : Int)] W fun e w' => e = .returned (cM (E j)) ∧ Below W.heap.size W w' from fun j W hj hW => by
    rw [← HE.out j]
    exact uv cv N c f t hft Lx hN hop nA u cT abo j hj now NW.out.1 W (HI.Ay hW))
  have Vj := acD (show ∀ (j : Nat) (a : RG), E j = some a → R16 a ∧ aC a = true from fun j a e => Hy hop hft Lx NW.out.1 NW.out.2 ((HE.out j).trans e))
  obtain ⟨V2, hV2, k0, k1, bV, sV⟩ := jH w #[.slice (some ⟨rb, 0, none⟩) n n, .slice (some ⟨ib, 0, none⟩) n n, .slice dA dn dc] #[.slice none 0 0, .slice none 0 0, .slice none 0 0] 48 48
  have E7 := acD (Np h)
  have HH := acD h
  have je := acD (h.keep bV)
  have HG := acD (And.intro hg (And.intro g0 (And.intro g1 g2)))
  have Ov := acD hn4
  have yI := acD gQ
  have HU := acD hu
  have K0 := acD k0
  have K1 := acD k1
  have BV := acD bV
  have SV := acD sV
  clear h hx hop HI hc hl4 g0 g1 g2 hn4 gQ hu J1 hE k0 k1 bV sV hG hN
  go_enter Tryz.func29, Tryz.ntmps29
  go_upto_region 1 with fail
  clear hV2
  have c71 : V2.cell? ⟨w.heap.size, 1, none⟩ = some (.slice (some ⟨ib, 0, none⟩) n n) := cell_of_row _ _ _ _ _ _ K0.out
  have l7 : w.heap.size < V2.heap.size := ag K0.out
  have dk : (k : Int) < (n : Int) := by omega
  have ud := acD (show V2.rangeAt ib (k * 32) (aa now) by rw [← Z9.out]; exact je.out.row.gJ hkn)
  go_upto_region 3 with (first | (refine wpList_load_mid rfl _ _ rfl _ _ rfl (aa now) _ ud.out Tryz.underlying61 rfl (rn aI NW.out.1.len) ?_) | (refine wpList_store_row rfl 61 (.tmp 14) _ rfl V2.heap.size (aa now).toArray rfl rfl 61 _ (heap_alloc_new _ _) (ra aI NW.out.1.len) (hi6 NW.out.1.len ak) (aj now) ?_))
  obtain ⟨q14, hq⟩ : ∃ b, V2.heap.size = b := ⟨_, rfl⟩
  obtain ⟨W0, hW0⟩ : ∃ E, (V2.alloc (.cells acM.toArray 61)).setRow V2.heap.size (aa now).toArray = E := ⟨_, rfl⟩
  rw [hW0, hq]
  have b0 : Below V2.heap.size V2 W0 := hW0 ▸ below_setRow ((Below.refl _ _).alloc (Nat.le_refl _) _) (Nat.le_refl _) _
  have HC := acD (show Qq (uh rb ib pb) w W0 q14 #[.slice (some ⟨rb, 0, none⟩) n n, .slice (some ⟨ib, 0, none⟩) n n, .slice dA dn dc] now from ⟨Fr.of (BV.out.trans (b0.mono BV.out.size)), (b0.block _ l7).trans K0.out, (b0.block _ (ag K1.out)).trans K1.out, by have := SV.out; omega, by rw [← hq, ← hW0]; exact aH.row (z := aq) (heap_alloc_new _ _)⟩)
  have ug := acD (je.out.keep b0)
  clear hW0 hq b0 c71 l7 dk ud K0 K1 BV SV je
  go_wp2_with fail
  go_loopw [13, 15, 16, 17, 18, 19] (fun a13 a15 _ _ _ _ wr => ∃ j : Nat, j ≤ u ∧ a15 = .int .i64 (j : Int) ∧ a13 = .bool (Fs nx E s j).2 ∧ yF V wr rb ib pb n (Fs nx E s j).1 ∧ Qq (uh rb ib pb) w wr q14 #[.slice (some ⟨rb, 0, none⟩) n n, .slice (some ⟨ib, 0, none⟩) n n, .slice dA dn dc] now) (fun _ a15 _ _ _ _ _ => u - (intOf a15).toNat)
  case atStart => exact ⟨0, by omega, rfl, rfl, ug.out, HC.out⟩
  case round =>
    clear ug HC
    obtain ⟨j, hj, rfl, rfl, Ho, hC⟩ := hrel
    have UK := acD (wK nx E s j)
    obtain ⟨pj, Oa⟩ : ∃ p, Fs nx E s j = p := ⟨_, rfl⟩
    rw [Oa] at Ho UK ⊢
    have Xx := acD Oa
    clear Oa
    obtain ⟨sj, bj⟩ := pj
    dsimp only at Ho UK ⊢
    have ug := acD Ho
    have HC := acD hC
    clear Ho hC
    obtain ⟨Hf, hg0, hg1, hg2⟩ := HG.out
    have fZ := ug.out.row.aF
    have g0 := (fZ.cell (p := ⟨g, off + k * 3, none⟩) Hf).trans hg0
    have g1 := (fZ.cell (p := ⟨g, off + k * 3 + 1, none⟩) Hf).trans hg1
    have g2 := (fZ.cell (p := ⟨g, off + k * 3 + 2, none⟩) Hf).trans hg2
    have lg : g < wr.heap.size := by have := fZ.size; omega
    have c70 : wr.cell? ⟨w.heap.size, 0, none⟩ = some (.slice (some ⟨rb, 0, none⟩) n n) := cell_of_row _ _ _ _ _ _ HC.out.k7
    have c71 : wr.cell? ⟨w.heap.size, 1, none⟩ = some (.slice (some ⟨ib, 0, none⟩) n n) := cell_of_row _ _ _ _ _ _ HC.out.k7
    have l7 : w.heap.size < wr.heap.size := ag HC.out.k7
    have l14 : q14 < wr.heap.size := HC.out.k14.lt
    have dk : (k : Int) < (n : Int) := by omega
    clear hg0 hg1 hg2
    by_cases hlt : j < u
    · have dl : decide ((j : Int) < (u : Int)) = true := decide_eq_true abo
      have du : (j : Int) < (u : Int) := by omega
      obtain ⟨nb, fT, TH, hnb, Bo⟩ := Ov.out abo
      subst TH
      have TW := Bo j hlt
      obtain ⟨tn, htn⟩ : ∃ tn : Nat, nx.getD j 0 = (tn : Int) ∧ tn < n := by
        have h1 : nx[j]? = some (nx.getD j 0) := by rw [List.getD, List.getElem?_eq_getElem (by rw [HU.out]; exact hlt)]; rfl
        have h2 := yI.out _ (List.mem_of_getElem? h1)
        exact ⟨(nx.getD j 0).toNat, by omega, by omega⟩
      obtain ⟨htn, htl⟩ := htn
      rw [htn] at TW
      have HST := acD (show Fs nx E s (j + 1) = ((cy sj tn (E j)).1, bj || (cy sj tn (E j)).2) by rw [UK.out, htn]; rfl)
      have x0 : wr.cell? ⟨nb, fT + j, none⟩ = some (.int .i64 (tn : Int)) := (fZ.cell (p := ⟨nb, fT + j, none⟩) hnb).trans TW
      have NY : nb < wr.heap.size := by have := fZ.size; omega
      have dt : (tn : Int) < (n : Int) := by omega
      have Vl := acD (fun W => oI.out j W abo)
      have QL := acD (Vj.out j)
      obtain ⟨oE, LD⟩ : ∃ o, E j = o := ⟨_, rfl⟩
      rw [LD] at HST Vl QL
      obtain ⟨rE, LB⟩ : ∃ q, oE.getD aq = q := ⟨_, rfl⟩
      obtain ⟨cE, M7⟩ : ∃ q, oE.isSome = q := ⟨_, rfl⟩
      have RE := acD (show R16 rE ∧ aC rE = true by
        rw [← LB]
        cases h3 : oE with
        | none => exact ⟨R16.zero, gw⟩
        | some a => exact QL.out a h3)
      have Q3 := acD (show ∀ W, Below wr.heap.size wr W → Calls Tryz.prog 30 #[cv, .agg #[.int .i64 (f : Int), .int .i64 (t : Int), .slice (some ⟨nb, fT, none⟩) u cT], .agg (aa now).toArray, .int .i64 (j : Int)] W fun e w' => e = .returned (.tuple #[.agg (aa rE).toArray, .bool cE]) ∧ Below W.heap.size W w' from fun W hW => by
        have := Vl.out W (ug.out.row.aF.trans (hW.mono ug.out.row.aF.size))
        rw [fP, LB, M7] at this
        exact this)
      have AR := acD LB
      have Q9 := acD M7
      have ud := acD HC.out.k14.range
      have HT := acD (And.intro htn LD)
      clear Bo TW hnb htn LD LB M7 fZ Hf
      go_wp2_with fail
      go_cut [17, 18] from 43 to 53 (fun a17 a18 wx => ∃ g, a17 = .pointer (some ⟨g, 0, none⟩) ∧ a18 = .bool cE ∧ aH wx g 61 rE ∧ Below wr.heap.size wr wx ∧ wr.heap.size ≤ g)
      case first =>
        refine wp_region_held_drew (S := fun w' => Below wr.heap.size wr w' ∧ w'.rangeAt q14 0 (aa now)) abp ?_ (fun hHeld => ?_)
        · have hk : Below wr.heap.size wr wr.drew := Below.drew (Below.refl _ _)
          exact ⟨hk, cL ud.out hk l14⟩
        have hk : Below wr.heap.size wr wr.drew := Below.drew (Below.refl _ _)
        obtain ⟨D0, qd⟩ : ∃ D, wr.drew = D := ⟨_, rfl⟩
        rw [qd] at hk
        rw [qd] at hHeld ⊢
        clear qd
        refine wpAnyH_take (i := 0) (oi := _) (v := ?_) rfl abp abp abp (fun _ _ _ h => h) (Or.inl ⟨by rfl, ?_⟩) hHeld ?_
        rotate_left
        · intro w' hSw
          clear hSw
          go_simp
          (try with_reducible rfl)
        (try simp only [acE, acF, acG, Act.put, acH, acI, acJ])
        refine wpAnyH_take (i := 1) (oi := _) (v := ?_) rfl abp abp abp (fun _ _ _ h => h) (Or.inl ⟨by rfl, ?_⟩) hHeld ?_
        rotate_left
        · intro w' hSw
          clear hSw
          go_simp
          (try with_reducible rfl)
        (try simp only [acE, acF, acG, Act.put, acH, acI, acJ])
        refine wpAnyH_take (i := 2) (oi := _) (v := ?_) rfl abp abp abp (fun _ _ _ h => h) (Or.inl ⟨by rfl, ?_⟩) hHeld ?_
        rotate_left
        · intro w' hSw
          clear hSw
          go_simp
          (try with_reducible rfl)
        (try simp only [acE, acF, acG, Act.put, acH, acI, acJ])
        refine wpAnyH_take (i := 3) (oi := _) (v := ?_) rfl abp abp abp (fun _ _ _ h => h) (Or.inl ⟨by rfl, ?_⟩) hHeld ?_
        rotate_left
        · intro w' hSw
          clear hSw
          go_simp
          (try with_reducible rfl)
        (try simp only [acE, acF, acG, Act.put, acH, acI, acJ])
        refine wpAnyH_take (i := 4) (oi := _) (v := ?_) rfl abp abp abp (fun _ _ _ h => h) (Or.inl ⟨by rfl, ?_⟩) hHeld ?_
        rotate_left
        · intro w' hSw
          have s0 := (hSw.1.cell (p := ⟨g, off + k * 3, none⟩) lg).trans g0
          have s1 := (hSw.1.cell (p := ⟨g, off + k * 3 + 1, none⟩) lg).trans g1
          have s2 := (hSw.1.cell (p := ⟨g, off + k * 3 + 2, none⟩) lg).trans g2
          clear hSw
          go_simp
          (try with_reducible rfl)
        (try simp only [acE, acF, acG, Act.put, acH, acI, acJ])
        refine wpAnyH_take (i := 5) (oi := _) (v := _) rfl abp abp abp (fun _ _ _ h => h) (yieldsIf_load_mid acr _ _ rfl _ _ rfl (aa now) _ (fun w hSw => hSw.2) Tryz.underlying61 rfl (rn aI NW.out.1.len)) hHeld ?_
        (try simp only [acE, acF, acG, Act.put, acH, acI, acJ])
        refine wpAnyH_take (i := 6) (oi := _) (v := ?_) rfl abp abp abp (fun _ _ _ h => h) (Or.inl ⟨by rfl, ?_⟩) hHeld ?_
        rotate_left
        · intro w' hSw
          clear hSw
          go_simp
          (try with_reducible rfl)
        (try simp only [acE, acF, acG, Act.put, acH, acI, acJ])
        iterate 3
          all_goals
            repeat (first | (refine wpAnyH_take (i := 8) (oi := _) (v := ?_) rfl abp abu abu (fun _ _ _ h => h) (Or.inl ⟨by rfl, ?_⟩) hHeld ?_; rotate_left; focus (intro w' hSw; clear hSw; go_simp; (try with_reducible rfl))) | (refine wpAnyH_take (i := 9) (oi := _) (v := ?_) rfl abp abu abu (fun _ _ _ h => h) (Or.inl ⟨by rfl, ?_⟩) hHeld ?_; rotate_left; focus (intro w' hSw; clear hSw; go_simp; (try with_reducible rfl))) | (refine wpAnyH_take (i := 10) (oi := _) (v := ?_) rfl abp abu abu (fun _ _ _ h => h) (Or.inl ⟨by rfl, ?_⟩) hHeld ?_; rotate_left; focus (intro w' hSw; clear hSw; go_simp; (try with_reducible rfl))) | (refine wpAnyH_take (i := 13) (oi := _) (v := ?_) rfl abp abu abu (fun _ _ _ h => h) (Or.inl ⟨by rfl, ?_⟩) hHeld ?_; rotate_left; focus (intro w' hSw; clear hSw; go_simp; (try with_reducible rfl))))
            (try simp only [acE, acF, acG, Act.put, acH, acI, acJ])
            (first | refine wpAnyH_ready (rs := [7, 11]) abu aby ?_ | refine wpAnyH_ready (rs := [11]) abu aby ?_ | refine wpAnyH_ready (rs := [12]) abu aby ?_ | refine wpAnyH_ready (rs := [7]) abu aby ?_)
            repeat' (first | exact AllReadyH.nil | refine AllReadyH.cons (o := _) rfl (fun K hK => ?_) ?_)
          all_goals
            first
              | (rw [if_pos acr]
                 have Bk := fW (show aH D0 q9 61 aq from k9)
                 refine wp_store_mid _ _ _ rfl _ _ (aa rE).toArray rfl rfl aco (ra aI RE.out.1.len) (all_oneCell_toArray (fc rE)) ?_
                 clear Bk
                 have hk := Below.aX hk l9 0 (aa rE)
                 have k9 := gS (show aH D0 q9 61 aq from k9) ak RE.out.1.len
                 obtain ⟨D1, hV⟩ : ∃ V, D0.setCells q9 0 (aa rE) = V := ⟨_, rfl⟩
                 rw [List.toList_toArray, hV]
                 rw [hV] at hk k9
                 clear hV
                 obtain ⟨D0, hD⟩ : ∃ V, V = D1 := ⟨_, rfl⟩
                 subst hD)
              | (go_simp
                 first
                   | (go_at_call 30
                      refine (((Q3.out _)) hk).mono ?_
                      rintro e D0 ⟨rfl, hb⟩
                      (try have k9 := (hb.block q9 (ag k9)).trans k9)
                      have hk := Below.trans hk (hb.mono hk.size)
                      clear hb)
                   | (obtain ⟨q9, hq⟩ : ∃ q, D0.heap.size = q := ⟨_, rfl⟩
                      obtain ⟨D1, hV⟩ : ∃ V, D0.alloc (.cells acM.toArray 61) = V := ⟨_, rfl⟩
                      rw [hV, hq]
                      have hb : Below D0.heap.size D0 D1 := hV ▸ (Below.refl _ _).alloc (Nat.le_refl _) _
                      have k9 : D1.heap[q9]? = some (.cells acM.toArray 61) := by rw [← hq, ← hV]; exact heap_alloc_new _ _
                      have l9 : wr.heap.size ≤ q9 := by rw [← hq]; exact hk.size
                      have hk := Below.trans hk (hb.mono hk.size)
                      clear hb hV hq
                      obtain ⟨D0, hD⟩ : ∃ V, V = D1 := ⟨_, rfl⟩
                      subst hD))
            refine hK.out _ _ (⟨hk, cL ud.out hk l14⟩) (fun hHeld => ?_)
            clear hK K
            (try simp only [acE, acF, acG, Act.put, acH, acI, acJ])
        all_goals
          repeat (first | (refine wpAnyH_take (i := 8) (oi := _) (v := ?_) rfl abp abu abu (fun _ _ _ h => h) (Or.inl ⟨by rfl, ?_⟩) hHeld ?_; rotate_left; focus (intro w' hSw; clear hSw; go_simp; (try with_reducible rfl))) | (refine wpAnyH_take (i := 9) (oi := _) (v := ?_) rfl abp abu abu (fun _ _ _ h => h) (Or.inl ⟨by rfl, ?_⟩) hHeld ?_; rotate_left; focus (intro w' hSw; clear hSw; go_simp; (try with_reducible rfl))) | (refine wpAnyH_take (i := 10) (oi := _) (v := ?_) rfl abp abu abu (fun _ _ _ h => h) (Or.inl ⟨by rfl, ?_⟩) hHeld ?_; rotate_left; focus (intro w' hSw; clear hSw; go_simp; (try with_reducible rfl))) | (refine wpAnyH_take (i := 13) (oi := _) (v := ?_) rfl abp abu abu (fun _ _ _ h => h) (Or.inl ⟨by rfl, ?_⟩) hHeld ?_; rotate_left; focus (intro w' hSw; clear hSw; go_simp; (try with_reducible rfl))))
          refine wpAnyH_done abp ?_ _
          clear hHeld
        all_goals
          go_wp2_with fail
          go_meet
          exact ⟨_, rfl, rfl, k9, hk, l9⟩
      case rest =>
        obtain ⟨b17, rfl, rfl, k17, hk, O3⟩ := hcut
        obtain ⟨W1, hW⟩ : ∃ E : World, E = wc := ⟨_, rfl⟩
        subst hW
        have HK1 := acD hk
        have BR := acD (ug.out.keep hk)
        have yM := acD (HC.out.keep (Fr.of hk) E7.out)
        have KG := acD k17
        have Xa := acD O3
        have l17 := k17.lt
        have c70 : W1.cell? ⟨w.heap.size, 0, none⟩ = some (.slice (some ⟨rb, 0, none⟩) n n) := cell_of_row _ _ _ _ _ _ yM.out.k7
        have c71 : W1.cell? ⟨w.heap.size, 1, none⟩ = some (.slice (some ⟨ib, 0, none⟩) n n) := cell_of_row _ _ _ _ _ _ yM.out.k7
        have l7 : w.heap.size < W1.heap.size := ag yM.out.k7
        clear g0 g1 g2 lg x0 NY l14 hk k17 O3 ud Q3 Vl
        cases oE with
        | none =>
          obtain rfl : false = cE := Q9.out
          go_wp2_with fail
          go_roundw
          case rel =>
            refine ⟨j + 1, by omega, by go_num, ?_, ?_, yM.out⟩
            · rw [HST.out]; simp [cy]
            · rw [HST.out]; exact BR.out
          case measure => simp [intOf]; omega
        | some r =>
          obtain rfl : true = cE := Q9.out
          obtain rfl : r = rE := AR.out
          obtain ⟨v5, OD⟩ := BR.out.row.gO (t := tn) htl
          obtain ⟨y1, y2, y3⟩ := BR.out.row.lt
          obtain ⟨ne1, ne2, ne3⟩ := BR.out.row.ne
          have Th : b17 ≠ rb := by have := ug.out.row.lt; have := Xa.out; omega
          have Yy : b17 ≠ ib := by have := ug.out.row.lt; have := Xa.out; omega
          have Yw : w.heap.size ≠ rb := by have := E7.out rb (.inl rfl); omega
          have n7i : w.heap.size ≠ ib := by have := E7.out ib (.inr (.inl rfl)); omega
          have n7p : w.heap.size ≠ pb := by have := E7.out pb (.inr (.inr rfl)); omega
          rcases mK : sj.reach.getD tn false with _ | _
          · rw [mK] at v5
            have AQ := acD mK
            clear mK
            go_upto_region 11 with fail
            obtain ⟨W2, hW2⟩ : ∃ E, W1.setCell ⟨rb, tn, none⟩ (.bool true) = E := ⟨_, rfl⟩
            rw [hW2]
            have Qa : W2.cell? ⟨w.heap.size, 1, none⟩ = some (.slice (some ⟨ib, 0, none⟩) n n) := by rw [← hW2, World.cell?_of_block (Below.heap_setCell _ _ _ _ (by show w.heap.size ≠ rb; exact Yw))]; exact c71
            have VG : w.heap.size < W2.heap.size := by rw [← hW2]; simpa using l7
            have IP := acD (show W2.rangeAt b17 0 (aa r) by rw [← hW2]; exact aH.range ((Below.heap_setCell _ _ _ _ (by show b17 ≠ rb; exact Th)).trans KG.out))
            have E6 := acD (show W2.there ib (tn * 32) 32 by rw [← hW2]; exact uj (BR.out.row.there htl))
            have Md := acD (BR.out.first htl RE.out AQ.out)
            rw [hW2] at Md
            clear hW2 v5 OD c70 c71 l7 l17
            go_wp2_with (first | (refine wpList_load_mid rfl _ _ rfl _ _ rfl (aa r) _ IP.out Tryz.underlying61 rfl (rn aI RE.out.1.len) ?_) | (refine wpList_store_mid rfl 61 _ _ rfl ib (tn * 32) (aa r).toArray rfl rfl (by rw [List.size_toArray, ax, RE.out.1.len]; exact E6.out) (ra aI RE.out.1.len) (aj r) ?_))
            go_roundw
            case rel =>
              have e2 : (cy sj tn (some r)).2 = true := by rw [wP AQ.out]
              refine ⟨j + 1, by omega, by go_num, ?_, ?_, yM.out.keep Md.out.2 E7.out⟩
              · rw [HST.out, e2]; simp
              · rw [HST.out]; exact Md.out.1
            case measure => simp [intOf]; omega
          · rw [mK] at v5
            have AQ := acD mK
            clear mK
            obtain ⟨cur, vT⟩ : ∃ cur, sj.bH.getD tn [] = cur := ⟨_, rfl⟩
            have CU := acD (show R16 cur ∧ aC cur = true from vT ▸ ⟨BR.out.row.Hr htl, BR.out.JI tn htl⟩)
            have fF := acD vT
            have EM := acD (show W1.rangeAt ib (tn * 32) (aa cur) from vT ▸ BR.out.row.gJ htl)
            have Oq := acD KG.out.range
            obtain ⟨jr, xP⟩ : ∃ jr, bF cur r = jr := ⟨_, rfl⟩
            have JR := acD (show R16 jr ∧ aC jr = true from xP ▸ ⟨CU.out.1.join RE.out.1, kT CU.out.1 RE.out.1 CU.out.2 RE.out.2⟩)
            have HJ := acD (show ∀ W, Calls Tryz.prog 66 #[.agg (aa cur).toArray, .agg (aa r).toArray] W fun e w' => e = .returned (.agg (aa jr).toArray) ∧ Below W.heap.size W w' from fun W => by
              have := uu cur r CU.out.1.len RE.out.1.len W
              rw [Bg CU.out.1 RE.out.1 CU.out.2 RE.out.2, xP] at this
              exact this)
            have SD := acD xP
            clear vT xP
            go_wp2_with fail
            go_cut [19] from 71 to 77 (fun a19 wx => ∃ g, a19 = .pointer (some ⟨g, 0, none⟩) ∧ aH wx g 61 jr ∧ Below W1.heap.size W1 wx ∧ W1.heap.size ≤ g)
            case first =>
              refine wp_region_held_drew (S := fun w' => Below W1.heap.size W1 w' ∧ w'.rangeAt ib (tn * 32) (aa cur) ∧ w'.rangeAt b17 0 (aa r)) abp ?_ (fun hHeld => ?_)
              · have hk : Below W1.heap.size W1 W1.drew := Below.drew (Below.refl _ _)
                exact ⟨hk, cL EM.out hk y2, cL Oq.out hk l17⟩
              have hk : Below W1.heap.size W1 W1.drew := Below.drew (Below.refl _ _)
              obtain ⟨D0, qd⟩ : ∃ D, W1.drew = D := ⟨_, rfl⟩
              rw [qd] at hk
              rw [qd] at hHeld ⊢
              clear qd
              refine wpAnyH_take (i := 0) (oi := _) (v := ?_) rfl abp abp abp (fun _ _ _ h => h) (Or.inl ⟨by rfl, ?_⟩) hHeld ?_
              rotate_left
              · intro w' hSw
                clear hSw
                go_simp
                (try with_reducible rfl)
              (try simp only [acE, acF, acG, Act.put, acH, acI, acJ])
              refine wpAnyH_take (i := 1) (oi := _) (v := ?_) rfl abp abp abp (fun _ _ _ h => h) (Or.inl ⟨by rfl, ?_⟩) hHeld ?_
              rotate_left
              · intro w' hSw
                have s1 := (hSw.1.cell (p := ⟨w.heap.size, 1, none⟩) l7).trans c71
                clear hSw
                go_simp
                (try with_reducible rfl)
              (try simp only [acE, acF, acG, Act.put, acH, acI, acJ])
              refine wpAnyH_take (i := 2) (oi := _) (v := ?_) rfl abp abp abp (fun _ _ _ h => h) (Or.inl ⟨by rfl, ?_⟩) hHeld ?_
              rotate_left
              · intro w' hSw
                clear hSw
                go_simp
                (try with_reducible rfl)
              (try simp only [acE, acF, acG, Act.put, acH, acI, acJ])
              refine wpAnyH_take (i := 3) (oi := _) (v := ?_) rfl abp abp abp (fun _ _ _ h => h) (Or.inl ⟨by rfl, ?_⟩) hHeld ?_
              rotate_left
              · intro w' hSw
                clear hSw
                go_simp
                (try with_reducible rfl)
              (try simp only [acE, acF, acG, Act.put, acH, acI, acJ])
              refine wpAnyH_take (i := 4) (oi := _) (v := _) rfl abp abp abp (fun _ _ _ h => h) (yieldsIf_load_mid acr _ _ rfl _ _ rfl (aa cur) _ (fun w hSw => hSw.2.1) Tryz.underlying61 rfl (rn aI CU.out.1.len)) hHeld ?_
              (try simp only [acE, acF, acG, Act.put, acH, acI, acJ])
              refine wpAnyH_take (i := 5) (oi := _) (v := _) rfl abp abp abp (fun _ _ _ h => h) (yieldsIf_load_mid acr _ _ rfl _ _ rfl (aa r) _ (fun w hSw => hSw.2.2) Tryz.underlying61 rfl (rn aI RE.out.1.len)) hHeld ?_
              (try simp only [acE, acF, acG, Act.put, acH, acI, acJ])
              iterate 3
                all_goals
                  (first | refine wpAnyH_ready (rs := [6, 7]) abu aby ?_ | refine wpAnyH_ready (rs := [7]) abu aby ?_ | refine wpAnyH_ready (rs := [8]) abu aby ?_ | refine wpAnyH_ready (rs := [6]) abu aby ?_)
                  repeat' (first | exact AllReadyH.nil | refine AllReadyH.cons (o := _) rfl (fun K hK => ?_) ?_)
                all_goals
                  first
                    | (rw [if_pos acr]
                       have Bk := fW (show aH D0 q9 61 aq from k9)
                       refine wp_store_mid _ _ _ rfl _ _ (aa jr).toArray rfl rfl (by have h9 := Bk; rw [ak] at h9; rw [List.size_toArray, ax, JR.out.1.len]; exact h9) (ra aI JR.out.1.len) (all_oneCell_toArray (fc jr)) ?_
                       clear Bk
                       have hk := Below.aX hk l9 0 (aa jr)
                       have k9 := gS (show aH D0 q9 61 aq from k9) ak JR.out.1.len
                       obtain ⟨D1, hV⟩ : ∃ V, D0.setCells q9 0 (aa jr) = V := ⟨_, rfl⟩
                       rw [List.toList_toArray, hV]
                       rw [hV] at hk k9
                       clear hV
                       obtain ⟨D0, hD⟩ : ∃ V, V = D1 := ⟨_, rfl⟩
                       subst hD)
                    | (go_simp
                       first
                         | (go_at_call 66
                            refine (((fun _ => HJ.out _)) hk).mono ?_
                            rintro e D0 ⟨rfl, hb⟩
                            (try have k9 := (hb.block q9 (ag k9)).trans k9)
                            have hk := Below.trans hk (hb.mono hk.size)
                            clear hb)
                         | (obtain ⟨q9, hq⟩ : ∃ q, D0.heap.size = q := ⟨_, rfl⟩
                            obtain ⟨D1, hV⟩ : ∃ V, D0.alloc (.cells acM.toArray 61) = V := ⟨_, rfl⟩
                            rw [hV, hq]
                            have hb : Below D0.heap.size D0 D1 := hV ▸ (Below.refl _ _).alloc (Nat.le_refl _) _
                            have k9 : D1.heap[q9]? = some (.cells acM.toArray 61) := by rw [← hq, ← hV]; exact heap_alloc_new _ _
                            have l9 : W1.heap.size ≤ q9 := by rw [← hq]; exact hk.size
                            have hk := Below.trans hk (hb.mono hk.size)
                            clear hb hV hq
                            obtain ⟨D0, hD⟩ : ∃ V, V = D1 := ⟨_, rfl⟩
                            subst hD))
                  refine hK.out _ _ (⟨hk, cL EM.out hk y2, cL Oq.out hk l17⟩) (fun hHeld => ?_)
                  clear hK K
                  (try simp only [acE, acF, acG, Act.put, acH, acI, acJ])
              all_goals
                refine wpAnyH_done abp ?_ _
                clear hHeld
              all_goals
                go_wp2_with fail
                go_meet
                exact ⟨_, rfl, k9, hk, l9⟩
            case rest =>
              obtain ⟨b19, rfl, k19, hk, O2⟩ := hcut
              obtain ⟨W2, hW⟩ : ∃ E : World, E = wc := ⟨_, rfl⟩
              subst hW
              have je := acD (BR.out.keep hk)
              have oM := acD (yM.out.keep (Fr.of hk) E7.out)
              have KJ := acD k19
              have Qw := acD O2
              have Vf := acD hk
              have l19 := k19.lt
              have Qa : W2.cell? ⟨w.heap.size, 1, none⟩ = some (.slice (some ⟨ib, 0, none⟩) n n) := cell_of_row _ _ _ _ _ _ oM.out.k7
              have VG : w.heap.size < W2.heap.size := ag oM.out.k7
              have UY := acD (show W2.rangeAt ib (tn * 32) (aa cur) from fF.out ▸ je.out.row.gJ htl)
              have UR := acD KJ.out.range
              have Tg : b19 ≠ ib := by have := Qw.out; omega
              have OY : b19 ≠ pb := by have := Qw.out; omega
              clear hk k19 O2 v5 OD c70 c71 l7 l17 EM Oq HJ
              obtain ⟨qb, VW⟩ : ∃ b, decide (jr = cur) = b := ⟨_, rfl⟩
              have U3 := acD VW
              clear VW
              have S5 : ib < W2.heap.size := je.out.row.lt.2.1
              go_wp2_with fail
              refine az abp abp ?_
              repeat (first | (go_big_quiet_step (fail)) | (refine bM abx _ _ rfl _ _ rfl (aa jr) _ (by rintro _ ⟨x1, rfl⟩; exact cL UR.out x1.h (by first | exact l19 | exact S5)) Tryz.underlying61 rfl (rn aI JR.out.1.len) ?_; (try simp only [acE, acF, acG, Act.put, acH, acI, acJ])) | (refine bM abx _ _ rfl _ _ rfl (aa cur) _ (by rintro _ ⟨x1, rfl⟩; exact cL UY.out x1.h (by first | exact l19 | exact S5)) Tryz.underlying61 rfl (rn aI CU.out.1.len) ?_; (try simp only [acE, acF, acG, Act.put, acH, acI, acJ])) | (refine wI abx _ _ _ rfl jr cur JR.out.1.len CU.out.1.len qb U3.out rfl rfl ?_; (try simp only [acE, acF, acG, Act.put, acH, acI, acJ])))
              refine wpQuiet_nil ?_
              rintro _ ⟨x1, rfl⟩
              cases qb with
              | true =>
                have WC := of_decide_eq_true U3.out
                have Xp := acD (Cw (r := r) AQ.out (by rw [fF.out, SD.out]; exact WC))
                clear WC
                go_wp2_with fail
                go_roundw
                case rel =>
                  refine ⟨j + 1, by omega, by go_num, ?_, ?_, oM.out.keep (Fr.of x1.h) E7.out⟩
                  · rw [HST.out, Xp.out]; simp
                  · rw [HST.out, Xp.out]; exact je.out.keep x1.h
                case measure => simp [intOf]; omega
              | false =>
                have EN := acD (show ¬ bF (sj.bH.getD tn []) r = sj.bH.getD tn [] by rw [fF.out, SD.out]; exact of_decide_eq_false U3.out)
                obtain ⟨W3, hW3⟩ : ∃ E : World, x1.w = E := ⟨_, rfl⟩
                have hx1 := x1.h
                rw [hW3] at hx1 ⊢
                clear hW3
                have UH := acD hx1
                have Mi := acD (je.out.keep hx1)
                obtain ⟨rp, LA⟩ : ∃ q, sj.rep.getD tn 0 = q := ⟨_, rfl⟩
                obtain ⟨v6, S7⟩ := Mi.out.row.nP (t := tn) htl
                rw [LA] at v6
                have IL := acD LA
                have hrb : 0 ≤ rp ∧ rp ≤ 70000000 := by
                  have hl : tn < sj.rep.length := by rw [Mi.out.kH.l3]; exact htl
                  have h2 : sj.rep.getD tn 0 = sj.rep[tn] := by rw [List.getD, List.getElem?_eq_getElem hl]; rfl
                  have h1 := Mi.out.kH.rep _ (List.getElem_mem hl)
                  rw [← h2, LA] at h1
                  omega
                have Yh : pb < W3.heap.size := Mi.out.row.lt.2.2
                have w1 : IntKind.i64.wrap (rp + 1) = rp + 1 := IntWalk.i64_in _ abo
                clear LA hx1 Qa VG l19
                go_upto_region 17 with fail
                obtain ⟨W4, Bp⟩ : ∃ E, W3.setCell ⟨pb, tn, none⟩ (.int .i64 (rp + 1)) = E := ⟨_, rfl⟩
                rw [Bp]
                have R4 := acD (show eL V W4 rb ib pb n sj.reach sj.bH (sj.rep.set tn (rp + 1)) from Bp ▸ Mi.out.row.Tc tn (rp + 1))
                have F4 := acD (show Fr (uh rb ib pb) W1 W4 from Bp ▸ Fr.set (Fr.of (Vf.out.trans (UH.out.mono Vf.out.size))) _ (.inl (.inr (.inr rfl))))
                have Vr := acD (yM.out.keep F4.out E7.out)
                have Sh := acD (show aH W4 b19 61 jr by rw [← Bp]; exact (Below.heap_setCell _ _ _ _ (by show b19 ≠ pb; exact OY)).trans (KJ.out.keep UH.out))
                have L4 := acD (show W3.heap.size = W4.heap.size by rw [← Bp]; simp)
                clear Bp v6 S7 w1 Yh S5
                obtain ⟨v6, S7⟩ : W4.cell? ⟨pb, tn, none⟩ = some (.int .i64 (rp + 1)) ∧ W4.frozen? ⟨pb, tn, none⟩ = false := by
                  have := R4.out.nP (t := tn) htl
                  rwa [show (sj.rep.set tn (rp + 1)).getD tn 0 = rp + 1 by rw [List.getD, List.getElem?_set_self (by rw [Mi.out.kH.l3]; exact htl)]; rfl] at this
                have y3 : pb < W4.heap.size := R4.out.lt.2.2
                have y2 : ib < W4.heap.size := R4.out.lt.2.1
                have l19 : b19 < W4.heap.size := Sh.out.lt
                have c71 : W4.cell? ⟨w.heap.size, 1, none⟩ = some (.slice (some ⟨ib, 0, none⟩) n n) := cell_of_row _ _ _ _ _ _ Vr.out.k7
                have l7 : w.heap.size < W4.heap.size := ag Vr.out.k7
                have QJ := acD Sh.out.range
                have Sr := acD (show cy sj tn (some r) = _ from uk AQ.out EN.out)
                have e2 : (cy sj tn (some r)).2 = true := by rw [Sr.out]
                by_cases hr2 : 2 ≤ rp
                · have dg : decide (2 < rp + 1) = true := decide_eq_true abo
                  have UX := acD (show W4.rangeAt ib (tn * 32) (aa cur) from fF.out ▸ R4.out.gJ htl)
                  obtain ⟨nr, Bl⟩ : ∃ nr, dG cur jr = nr := ⟨_, rfl⟩
                  have NR := acD (show R16 nr from Bl ▸ CU.out.1.qF JR.out.1)
                  have QS := acD Bl
                  have Sm := acD (show ∀ W, Calls Tryz.prog 67 #[.agg (aa cur).toArray, .agg (aa jr).toArray] W fun e w' => e = .returned (.agg (aa nr).toArray) ∧ Below W.heap.size W w' from fun W => by
                    have := zg cur jr CU.out.1.len JR.out.1.len W
                    rw [Fj CU.out.1 JR.out.1 CU.out.2 JR.out.2, Bl] at this
                    exact this)
                  have Vh := acD hr2
                  clear Bl hr2
                  go_wp2_with fail
                  refine aG 7 abp abp ?_
                  simp only [acK, List.take_zero, acL, List.drop_zero]
                  repeat (first | (go_big_quiet_step ((go_at_call 67; exact Calls.ay (Sm.out _)))) | (refine bM abx _ _ rfl _ _ rfl (aa jr) _ (by rintro _ ⟨x1, rfl⟩; exact cL QJ.out x1.h (by first | exact l19 | exact y2)) Tryz.underlying61 rfl (rn aI JR.out.1.len) ?_; (try simp only [acE, acF, acG, Act.put, acH, acI, acJ])) | (refine bM abx _ _ rfl _ _ rfl (aa cur) _ (by rintro _ ⟨x1, rfl⟩; exact cL UX.out x1.h (by first | exact l19 | exact y2)) Tryz.underlying61 rfl (rn aI CU.out.1.len) ?_; (try simp only [acE, acF, acG, Act.put, acH, acI, acJ])))
                  refine wpQuiet_nil ?_
                  rintro _ ⟨x2, rfl⟩
                  go_upto_region 19 with (refine wpList_store_row rfl 61 (.tmp 19) _ rfl b19 (aa nr).toArray rfl rfl 61 _ (Sh.out.keep x2.h) (ra aI NR.out.len) (hi6 NR.out.len JR.out.1.len) (aj nr) ?_)
                  obtain ⟨W5, PK⟩ : ∃ E, x2.w.setRow b19 (aa nr).toArray = E := ⟨_, rfl⟩
                  rw [PK]
                  have Tf : b19 ≠ rb := by have h1 := Qw.out; have h2 := BR.out.row.lt.1; omega
                  have lw : W1.heap.size ≤ W4.heap.size := by have h1 := Vf.out.size; have h2 := UH.out.size; have h3 := L4.out; omega
                  have R5 := acD (show eL V W5 rb ib pb n sj.reach sj.bH (sj.rep.set tn (rp + 1)) from PK ▸ (R4.out.keep x2.h).GN (S := fun k => k = b19) (Fr.setRow (Fr.refl _ _) _ (.inl rfl)) (fun e => Tf e.symm) (fun e => Tg e.symm) (fun e => OY e.symm) (fun k hk => by have h1 := Qw.out; have h2 := BR.out.row.aF.size; omega))
                  have Vq := acD (yM.out.keep (show Fr (uh rb ib pb) W1 W5 from PK ▸ Fr.setRow (F4.out.trans (Fr.of x2.h)) _ (.inr Qw.out)) E7.out)
                  have KN := acD (show aH W5 b19 61 nr from PK ▸ aH.row (z := jr) (Sh.out.keep x2.h))
                  have Zw : W5.cell? ⟨w.heap.size, 1, none⟩ = some (.slice (some ⟨ib, 0, none⟩) n n) := cell_of_row _ _ _ _ _ _ Vq.out.k7
                  have l7e : w.heap.size < W5.heap.size := ag Vq.out.k7
                  have y2e : ib < W5.heap.size := R5.out.lt.2.1
                  have YG : b19 < W5.heap.size := KN.out.lt
                  have E6 := acD (R5.out.there htl)
                  have UQ := acD KN.out.range
                  clear PK c71 l7 y2 l19 v6 S7 y3
                  go_wp2_with (first | (refine wpList_load_mid rfl _ _ rfl _ _ rfl (aa nr) _ UQ.out Tryz.underlying61 rfl (rn aI NR.out.len) ?_) | (refine wpList_store_mid rfl 61 _ _ rfl ib (tn * 32) (aa nr).toArray rfl rfl (by rw [List.size_toArray, ax, NR.out.len]; exact E6.out) (ra aI NR.out.len) (aj nr) ?_))
                  go_roundw
                  case rel =>
                    refine ⟨j + 1, by omega, by go_num, ?_, ?_, Vq.out.keep (Fr.setCells (Fr.refl _ _) _ (.inl (.inr (.inl rfl)))) E7.out⟩
                    · rw [HST.out, e2]; simp
                    · rw [HST.out]
                      exact Mi.out.more htl RE.out AQ.out EN.out (by rw [IL.out]) (by rw [IL.out, if_pos Vh.out, fF.out, SD.out, QS.out]) (R5.out.JB htl NR.out)
                  case measure => simp [intOf]; omega
                · have dg : decide (2 < rp + 1) = false := decide_eq_false abo
                  have E6 := acD (R4.out.there htl)
                  have Vh := acD hr2
                  clear hr2
                  go_wp2_with (first | (refine wpList_load_mid rfl _ _ rfl _ _ rfl (aa jr) _ QJ.out Tryz.underlying61 rfl (rn aI JR.out.1.len) ?_) | (refine wpList_store_mid rfl 61 _ _ rfl ib (tn * 32) (aa jr).toArray rfl rfl (by rw [List.size_toArray, ax, JR.out.1.len]; exact E6.out) (ra aI JR.out.1.len) (aj jr) ?_))
                  go_roundw
                  case rel =>
                    refine ⟨j + 1, by omega, by go_num, ?_, ?_, Vr.out.keep (Fr.setCells (Fr.refl _ _) _ (.inl (.inr (.inl rfl)))) E7.out⟩
                    · rw [HST.out, e2]; simp
                    · rw [HST.out]
                      exact Mi.out.more htl RE.out AQ.out EN.out (by rw [IL.out]) (by rw [IL.out, if_neg Vh.out, fF.out, SD.out]) (R4.out.JB htl JR.out.1)
                  case measure => simp [intOf]; omega
    · obtain rfl : j = u := by omega
      have dl : decide ((j : Int) < (j : Int)) = false := decide_eq_false abo
      have hr7 : wr.rangeAt w.heap.size 0 [.slice (some ⟨rb, 0, none⟩) n n, .slice (some ⟨ib, 0, none⟩) n n, .slice dA dn dc] := au HC.out.k7
      go_wp2_with (first | (refine wpList_load_mid rfl _ _ rfl _ _ rfl [.slice (some ⟨rb, 0, none⟩) n n, .slice (some ⟨ib, 0, none⟩) n n, .slice dA dn dc] _ hr7 Tryz.underlying48 rfl abp ?_) | (refine wpList_store_row rfl 48 (.tmp 10) _ rfl (w.heap.size + 1) #[.slice (some ⟨rb, 0, none⟩) n n, .slice (some ⟨ib, 0, none⟩) n n, .slice dA dn dc] rfl rfl 48 _ HC.out.k10 abp rfl abt ?_))
      refine bodyPost_ret (nO (P := Tryz.prog) Tryz.results29 _ _ (w.heap.size + 1) [.slice (some ⟨rb, 0, none⟩) n n, .slice (some ⟨ib, 0, none⟩) n n, .slice dA dn dc] _ rfl (au (setRow_heap _ _ _ _ _ _ HC.out.k10)) Tryz.underlying48 rfl abp) rfl ⟨?_, ?_, ?_⟩
      · rw [Xx.out]; rfl
      · rw [Xx.out]
        have hl := HC.out.lq
        have h3 := E7.out
        exact ⟨ug.out.row.GN (S := fun k => k = (w.heap.size + 1)) (Fr.setRow (Fr.refl _ _) _ (.inl rfl)) (fun e => by have := h3 rb (.inl rfl); omega) (fun e => by have := h3 ib (.inr (.inl rfl)); omega) (fun e => by have := h3 pb (.inr (.inr rfl)); omega) (fun k hk => by have := HH.out.row.aF.size; omega), ug.out.kH, ug.out.JI⟩
      · exact Fr.setRow HC.out.fr _ (.inr abo)
end
end Go.Proofs.YtebklpnkcicpjaaGreatDoor
