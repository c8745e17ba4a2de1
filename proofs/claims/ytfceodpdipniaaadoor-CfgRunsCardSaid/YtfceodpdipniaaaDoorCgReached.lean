/-
  What is proved here: what the reference's Reached returns.
-/
import Derived.Test.YtfceodpdipniaaaDoorCgRVal
namespace Go.Proofs.YtfceodpdipniaaaDoor
open Go.RowKit
set_option linter.unusedVariables false
set_option linter.unusedSimpArgs false

inductive GR (G : List Blk) : Nat → Prop
  | start : GR G 0
  | step {b t : Nat} {x : Blk} : GR G b → G[b]? = some x → (t : Int) ∈ x.nx → GR G t
def cntS (n : Nat) (sn : Nat → Bool) : Nat := ((List.range n).filter sn).length
theorem cntS_le (n : Nat) (sn : Nat → Bool) : cntS n sn ≤ n := by
  unfold cntS
  exact Nat.le_trans (List.length_filter_le _ _) (by simp)
theorem cntS_upd {n : Nat} {sn : Nat → Bool} {i : Nat} (hi : i < n) (hs : sn i = false) : cntS n (upd sn i true) = cntS n sn + 1 := by
  unfold cntS
  induction n with
  | zero => omega
  | succ n ih =>
    rw [List.range_succ, List.filter_append, List.filter_append, List.length_append, List.length_append]
    by_cases e : i = n
    · subst e
      have h1 : (List.range i).filter (upd sn i true) = (List.range i).filter sn := by
        apply List.filter_congr
        intro a ha
        have : a ≠ i := by have := List.mem_range.1 ha; omega
        simp [upd, this]
      rw [h1]
      simp [upd, hs]
    · have := ih (by omega)
      have e2 : n ≠ i := fun h => e h.symm
      have h3 : [n].filter (upd sn i true) = [n].filter sn := by simp [List.filter_cons, upd, e2]
      rw [h3, this]
      omega
abbrev bvs (n : Nat) (sn : Nat → Bool) : List Value := (List.range n).map fun i => .bool (sn i)
theorem bvs_set (n : Nat) (sn : Nat → Bool) {p : Nat} (hp : p < n) (b : Bool) : (bvs n sn).set p (.bool b) = bvs n (upd sn p b) := by
  apply List.ext_getElem?
  intro q
  rw [List.getElem?_set]
  simp only [bvs, List.length_map, List.length_range, List.getElem?_map]
  by_cases e : p = q
  · subst e
    rw [if_pos rfl, if_pos hp, List.getElem?_range hp]
    simp [upd]
  · rw [if_neg e]
    by_cases hq : q < n
    · rw [List.getElem?_range hq]
      have : q ≠ p := fun h => e h.symm
      simp [upd, this]
    · rw [List.getElem?_eq_none (by simpa using hq)]
      rfl
theorem infoBl : (Tryd.prog.info? 4).map (fun i => (i.zero, i.size, i.bytes)) = some (some (.bool false), 1, 1) := by kernel_rfl
/-- The row of marks. -/
structure SM (w wr : World) (g n : Nat) (sn : Nat → Bool) : Prop where
  bel : Below w.heap.size w wr
  row : wr.ownsRow w.heap.size 4 1 (.slice (some ⟨g, 0, none⟩) n n) n (bvs n sn)
theorem SM.cells {w wr : World} {g n : Nat} {sn : Nat → Bool} (h : SM w wr g n sn) {i : Nat} (hi : i < n) : wr.cell? ⟨g, i, none⟩ = some (.bool (sn i)) ∧ wr.frozen? ⟨g, i, none⟩ = false :=
  ⟨by rw [h.row.cellAt _ (by omega), List.getElem?_map, List.getElem?_range hi]; rfl, h.row.frozenAt _⟩
theorem SM.set {w wr : World} {g n : Nat} {sn : Nat → Bool} (h : SM w wr g n sn) {i : Nat} (hi : i < n) (b : Bool) : SM w (wr.setCell ⟨g, i, none⟩ (.bool b)) g n (upd sn i b) :=
  ⟨h.bel.setCell (h.row.lt g rfl).1 _, by rw [← bvs_set n sn hi b]; exact (h.row.stored i (.bool b)).1⟩
structure RS (G : List Blk) (sn : Nat → Bool) : Prop where
  zero : sn 0 = true
  sound : ∀ i, i < G.length → sn i = true → GR G i
theorem RS.add {G : List Blk} {sn : Nat → Bool} (h : RS G sn) {b t : Nat} {x : Blk} (hb : b < G.length) (hs : sn b = true) (hx : G[b]? = some x) (ht : (t : Int) ∈ x.nx) : RS G (upd sn t true) := by
  refine ⟨?_, fun i hi hs' => ?_⟩
  · unfold upd; split; rfl; exact h.zero
  · unfold upd at hs'
    split at hs'
    · rename_i e; rw [e]; exact GR.step (h.sound b hb hs) hx ht
    · exact h.sound i hi hs'
/-- What a pass has done: nothing is new and all that was looked at is marked, or something is new. -/
def Pass (G : List Blk) (sn : Nat → Bool) (c0 : Nat) (ag : Bool) (b j : Nat) : Prop :=
  (ag = false ∧ cntS G.length sn = c0 ∧ (∀ b' x, b' < b → G[b']? = some x → sn b' = true → ∀ t : Nat, (t : Int) ∈ x.nx → sn t = true) ∧ ∀ x, G[b]? = some x → ∀ t : Nat, (t : Int) ∈ x.nx.take j → sn t = true) ∨ (ag = true ∧ c0 < cntS G.length sn)

set_option maxHeartbeats 4000000 in
set_option maxRecDepth 20000 in
theorem reached_any (v : Value) (G : List Blk) (w : World) (HG : Blks w v G) (hn : G.length ≤ 5000) (hn0 : 0 < G.length) (hin : ∀ x ∈ G, ∀ t ∈ x.nx, 0 ≤ t ∧ t < (G.length : Int)) :
    Calls Tryd.prog 22 #[v] w fun e w' => (∃ r : Bool, e = .returned (.bool r) ∧ (r = true ↔ ∀ i, i < G.length → GR G i)) ∧ Below w.heap.size w w' := by
  obtain ⟨A, cap, rfl, hc1, hc2⟩ := HG.slice
  have HGH := Lib.hid HG
  have HIN := Lib.hid hin
  clear HG hin
  obtain ⟨i2, hi2, hs0, hs1, hs2⟩ := info_parts infoBl
  obtain ⟨U1, lm, rowP, gr1⟩ := run_make_full (P := Tryd.prog) w w.heap.size 102 4 i2 (.bool false) 1 Tryd.underlying102 hi2 hs0 hs1 .i64 .i64 G.length (by rw [hs2]; omega) (by unfold maxLen; omega) (Nat.le_refl _)
  rw [Nat.mul_one, show (Value.bool false).cells = #[Value.bool false] from rfl, toList_madeCells_one] at rowP
  have hS0 : SM w U1 w.heap.size G.length (fun _ => false) := by
    refine ⟨(Below.refl _ _).grown gr1 (Nat.le_refl _) (fun k hk => by cases hk), ?_⟩
    have e : bvs G.length (fun _ => false) = List.replicate G.length (.bool false) := by
      apply List.ext_getElem?
      intro q
      by_cases hq : q < G.length
      · simp [hq]
      · simp [hq]
    rw [e]
    exact rowP
  obtain ⟨t1, t2⟩ := hS0.cells hn0
  have HS1 := Lib.hid (hS0.set hn0 true)
  have HR1 := Lib.hid (show RS G (upd (fun _ => false) 0 true) from ⟨by simp [upd], fun i hi hs => by
    unfold upd at hs
    split at hs
    · rename_i e; rw [e]; exact GR.start
    · cases hs⟩)
  clear rowP gr1 hS0
  go_enter Tryd.func22, Tryd.ntmps22
  go_upto_region 4 with fail
  obtain ⟨g, hg⟩ : ∃ g, w.heap.size = g := ⟨_, rfl⟩
  rw [hg] at HS1 t1 t2 ⊢
  clear lm t1 t2
  go_loopg [4, 5, 6] (2 * G.length + 1) (fun gk a4 a5 a6 wr => ∃ (sn : Nat → Bool) (ag : Bool), a4 = .bool ag ∧ 2 * (G.length - cntS G.length sn) + (if ag = true then 1 else 0) ≤ gk ∧ RS G sn ∧ SM w wr g G.length sn ∧ (ag = false → ∀ b' x, G[b']? = some x → sn b' = true → ∀ t : Nat, (t : Int) ∈ x.nx → sn t = true))
  case atStart => exact ⟨_, true, rfl, by simp; omega, HR1.out, HS1.out, fun h => by cases h⟩
  case round =>
    obtain ⟨sn, ag, rfl, hgk, hR, hS, hcl⟩ := hrel
    have HR := Lib.hid hR
    have HS := Lib.hid hS
    have HCL := Lib.hid hcl
    clear HR1 HS1 hR hS hcl
    cases ag with
    | false =>
      have HC := Lib.hid (HCL.out rfl)
      have HALL := Lib.hid (show ∀ i, GR G i → sn i = true from fun i hi => by
        induction hi with
        | start => exact HR.out.zero
        | step h1 h2 h3 ih => exact HC.out _ _ h2 ih _ h3)
      clear HCL
      go_upto_region 16 with fail
      obtain ⟨wo, rfl⟩ : ∃ wo : World, wo = wr := ⟨_, rfl⟩
      go_loopw [7] (fun a7 wr => ∃ j : Nat, j ≤ G.length ∧ a7 = .int .i64 (j : Int) ∧ (∀ i, i < j → sn i = true) ∧ wr = wo) (fun a7 _ => G.length - (intOf a7).toNat)
      case atStart => exact ⟨0, Nat.zero_le _, rfl, fun i hi => by omega, rfl⟩
      case round =>
        obtain ⟨j, hj, rfl, hall, hw⟩ := hrel
        subst hw
        have HA := Lib.hid hall
        clear hall
        by_cases hlt : j < G.length
        · obtain ⟨t1, t2⟩ := HS.out.cells hlt
          have dl : decide ((j : Int) < (G.length : Int)) = true := decide_eq_true (by omega)
          rcases hsn : sn j
          · rw [hsn] at t1
            have HN := Lib.hid hsn
            clear hsn
            go_wp2_with fail
            go_ret
            refine ⟨⟨false, rfl, ?_⟩, HS.out.bel⟩
            simp only [Bool.false_eq_true, false_iff]
            intro h
            have := HALL.out j (h j hlt)
            rw [HN.out] at this
            cases this
          · rw [hsn] at t1
            have HN := Lib.hid hsn
            clear hsn
            go_wp2_with fail
            go_roundw
            case rel =>
              refine ⟨j + 1, by omega, by go_num, fun i hi => ?_, by first | rfl | trivial⟩
              by_cases e : i = j
              · rw [e]; exact HN.out
              · exact HA.out i (by omega)
            case measure => simp [intOf]; omega
        · obtain rfl : j = G.length := by omega
          have dl : decide ((G.length : Int) < (G.length : Int)) = false := by simp
          go_wp2_with fail
          go_ret
          exact ⟨⟨true, rfl, by simp; exact fun i hi => HR.out.sound i hi (HA.out i hi)⟩, HS.out.bel⟩
    | true =>
      clear HCL
      obtain ⟨c0, hc0⟩ : ∃ c0, cntS G.length sn = c0 := ⟨_, rfl⟩
      have hgk' : 2 * (G.length - c0) + 1 ≤ gk := by rw [← hc0]; simpa using hgk
      have HP0 := Lib.hid (show Pass G sn c0 false 0 0 from .inl ⟨rfl, hc0, fun b' x h => by omega, fun x hx t ht => by simp at ht⟩)
      clear hgk hc0
      go_upto_region 7 with fail
      obtain ⟨wo, rfl⟩ : ∃ wo : World, wo = wr := ⟨_, rfl⟩
      go_loopw [4, 5, 6] (fun a4 a5 a6 wr => ∃ (b : Nat) (sn : Nat → Bool) (ag : Bool), b ≤ G.length ∧ a5 = .int .i64 (b : Int) ∧ a4 = .bool ag ∧ RS G sn ∧ SM w wr g G.length sn ∧ Pass G sn c0 ag b 0) (fun _ a5 _ _ => G.length - (intOf a5).toNat)
      case atStart => exact ⟨0, sn, false, Nat.zero_le _, rfl, rfl, HR.out, HS.out, HP0.out⟩
      case round =>
        clear HR HS HP0 sn
        obtain ⟨bq, sn, ag, hbq, rfl, rfl, hR, hS, hP⟩ := hrel
        have HR := Lib.hid hR
        have HS := Lib.hid hS
        have HP := Lib.hid hP
        clear hR hS hP
        by_cases hlt : bq < G.length
        · obtain ⟨x, nv, b, off, hx, rfl, hbl, c0', c1', c2', hI⟩ := HGH.out.at_ HS.out.bel hlt
          obtain ⟨NA, ncap, rfl, hn1, hn2⟩ := hI.slice
          have HI := Lib.hid hI
          have HX := Lib.hid hx
          have HXM := Lib.hid (List.mem_of_getElem? hx)
          have CW := Lib.hid (show w.cell? ⟨b, off + bq * 3 + 2, none⟩ = some (.slice NA x.nx.length ncap) by rw [← HS.out.bel.cell (p := ⟨b, off + bq * 3 + 2, none⟩) hbl]; exact c2')
          have dl : decide ((bq : Int) < (G.length : Int)) = true := decide_eq_true (by omega)
          clear hx hI c0' c1' c2'
          go_upto_region 10 with fail
          clear dl
          obtain ⟨wq, rfl⟩ : ∃ wq : World, wq = wr := ⟨_, rfl⟩
          go_loopw [4, 6] (fun a4 a6 wr => ∃ (j : Nat) (sn : Nat → Bool) (ag : Bool), j ≤ x.nx.length ∧ a6 = .int .i64 (j : Int) ∧ a4 = .bool ag ∧ RS G sn ∧ SM w wr g G.length sn ∧ Pass G sn c0 ag bq j) (fun _ a6 _ => x.nx.length - (intOf a6).toNat)
          case atStart => exact ⟨0, sn, ag, Nat.zero_le _, rfl, rfl, HR.out, HS.out, HP.out⟩
          case round =>
            clear HR HS HP sn
            obtain ⟨j, sn, ag, hj, rfl, rfl, hR, hS, hP⟩ := hrel
            have HR := Lib.hid hR
            have HS := Lib.hid hS
            have HP := Lib.hid hP
            have c2 : wr.cell? ⟨b, off + bq * 3 + 2, none⟩ = some (.slice NA x.nx.length ncap) := by rw [hS.bel.cell (p := ⟨b, off + bq * 3 + 2, none⟩) hbl]; exact CW.out
            clear hR hS hP
            obtain ⟨t1, t2⟩ := HS.out.cells hlt
            have nextB : ∀ (sn : Nat → Bool), RS G sn → SM w wr g G.length sn → Pass G sn c0 ag bq j → (sn bq = false ∨ j = x.nx.length) → Pass G sn c0 ag (bq + 1) 0 := fun sn h1 h2 h3 h4 => by
              rcases h3 with ⟨a1, a2, a3, a4⟩ | h3
              · refine .inl ⟨a1, a2, fun b' y hb' hy hs t ht => ?_, fun y hy t ht => by simp at ht⟩
                by_cases e : b' = bq
                · subst e
                  rcases h4 with h4 | h4
                  · rw [h4] at hs; cases hs
                  · rw [HX.out] at hy
                    cases hy
                    exact a4 x HX.out t (by rw [h4, List.take_length]; exact ht)
                · exact a3 b' y (by omega) hy hs t ht
              · exact .inr h3
            have HNB := Lib.hid nextB
            clear nextB
            rcases hsb : sn bq
            · rw [hsb] at t1
              have HN := Lib.hid hsb
              clear hsb
              go_wp2_with fail
              go_roundw
              case rel => exact ⟨bq + 1, sn, ag, by omega, by go_num, rfl, HR.out, HS.out, HNB.out sn HR.out HS.out HP.out (.inl HN.out)⟩
              case measure => simp [intOf]; omega
            · rw [hsb] at t1
              have HN := Lib.hid hsb
              clear hsb
              by_cases hjl : j < x.nx.length
              · obtain ⟨s, nb, noff, hs, rfl, hnb, x1⟩ := HI.out.at_ HS.out.bel hjl
                have HTS := Lib.hid (take_snoc hs)
                have HSM := Lib.hid (List.mem_of_getElem? hs)
                have hsi := HIN.out x HXM.out s HSM.out
                obtain ⟨p, rfl⟩ : ∃ p : Nat, s = (p : Int) := ⟨s.toNat, by omega⟩
                have hp : p < G.length := by omega
                obtain ⟨p1, p2⟩ := HS.out.cells hp
                have dl2 : decide ((j : Int) < (x.nx.length : Int)) = true := decide_eq_true (by omega)
                clear hs
                rcases hsp : sn p
                · rw [hsp] at p1
                  have HSP := Lib.hid hsp
                  clear hsp
                  go_wp2_with fail
                  go_roundw
                  case rel =>
                    refine ⟨j + 1, upd sn p true, true, by omega, by go_num, rfl, HR.out.add hlt HN.out HX.out HSM.out, HS.out.set hp true, .inr ⟨rfl, ?_⟩⟩
                    rw [cntS_upd hp HSP.out]
                    rcases HP.out with h | h
                    · have := h.2.1; omega
                    · have := h.2; omega
                  case measure => simp [intOf]; omega
                · rw [hsp] at p1
                  have HSP := Lib.hid hsp
                  clear hsp
                  go_wp2_with fail
                  go_roundw
                  case rel =>
                    refine ⟨j + 1, sn, ag, by omega, by go_num, rfl, HR.out, HS.out, ?_⟩
                    rcases HP.out with ⟨a1, a2, a3, a4⟩ | h
                    · refine .inl ⟨a1, a2, a3, fun y hy t ht => ?_⟩
                      have ey : y = x := by rw [HX.out] at hy; exact (Option.some.inj hy).symm
                      subst ey
                      rw [HTS.out] at ht
                      rcases List.mem_append.1 ht with h | h
                      · exact a4 y hy t h
                      · simp at h; rw [show t = p by omega]; exact HSP.out
                    · exact .inr h
                  case measure => simp [intOf]; omega
              · obtain rfl : j = x.nx.length := by omega
                have dl2 : decide ((x.nx.length : Int) < (x.nx.length : Int)) = false := by simp
                go_wp2_with fail
                go_roundw
                case rel => exact ⟨bq + 1, sn, ag, by omega, by go_num, rfl, HR.out, HS.out, HNB.out sn HR.out HS.out HP.out (.inr rfl)⟩
                case measure => simp [intOf]; omega
        · obtain rfl : bq = G.length := by omega
          have dl : decide ((G.length : Int) < (G.length : Int)) = false := by simp
          have hcl := cntS_le G.length sn
          go_wp2_with fail
          go_roundg (2 * (G.length - cntS G.length sn) + (if ag = true then 1 else 0))
          case measure =>
            rcases HP.out with ⟨a1, a2, _⟩ | ⟨a1, a2⟩
            · rw [a1, a2]; simp; omega
            · rw [a1]; simp; omega
          case rel =>
            refine ⟨sn, ag, rfl, Nat.le_refl _, HR.out, HS.out, fun h b' y hy hs t ht => ?_⟩
            rcases HP.out with ⟨a1, a2, a3, _⟩ | ⟨a1, _⟩
            · exact a3 b' y ((List.getElem?_eq_some_iff.1 hy).1) hy hs t ht
            · rw [a1] at h; cases h

end Go.Proofs.YtfceodpdipniaaaDoor
