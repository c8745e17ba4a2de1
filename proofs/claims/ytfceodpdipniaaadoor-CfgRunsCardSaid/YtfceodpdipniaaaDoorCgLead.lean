/-
  What is proved here: what cfg.leaders returns.
-/
import Derived.Test.YtfceodpdipniaaaDoorCgReach
namespace Go.Proofs.YtfceodpdipniaaaDoor
open Go.RowKit
set_option linter.unusedVariables false
set_option linter.unusedSimpArgs false

/-- The leaders that an instruction makes. -/
def marksI (i : Ins) (a : Int) : List Int := if isBr i.op = true then succI i a else if i.op = 28 then [a] else if i.op = 29 then [a + 1] else []
def Lead (c : Int → Ins) (st : Int) (D : List Int) (x : Int) : Prop := x = st ∨ ∃ a ∈ D, x ∈ marksI (c a) a
structure MInv (c : Int → Ins) (st : Int) (D : List Int) (g : Int → Option Value) (left : List Int) : Prop where
  sound : ∀ x, g x = none ∨ (g x = some (.bool true) ∧ Lead c st D x)
  start : g st = some (.bool true)
  done : ∀ a ∈ D, a ∈ left ∨ ∀ x ∈ marksI (c a) a, g x = some (.bool true)
theorem MInv.add {c : Int → Ins} {st : Int} {D : List Int} {g : Int → Option Value} {left : List Int} (h : MInv c st D g left) {x : Int} (hx : Lead c st D x) : MInv c st D (updo g x (.bool true)) left := by
  refine ⟨fun y => ?_, ?_, fun a ha => ?_⟩
  · unfold updo
    by_cases e : y = x
    · rw [if_pos e]; exact .inr ⟨rfl, e ▸ hx⟩
    · rw [if_neg e]; exact h.sound y
  · unfold updo; split; rfl; exact h.start
  · rcases h.done a ha with h1 | h1
    · exact .inl h1
    · refine .inr fun y hy => ?_
      unfold updo; split; rfl; exact h1 y hy
theorem MInv.drop {c : Int → Ins} {st : Int} {D : List Int} {g : Int → Option Value} {left left' : List Int} (h : MInv c st D g left) {a : Int} (hl : ∀ x ∈ left, x = a ∨ x ∈ left') (ha : ∀ x ∈ marksI (c a) a, g x = some (.bool true)) : MInv c st D g left' :=
  ⟨h.sound, h.start, fun b hb => by
    rcases h.done b hb with h1 | h1
    · rcases hl b h1 with h2 | h2
      · exact .inr (h2 ▸ ha)
      · exact .inl h2
    · exact .inr h1⟩
theorem MInv.lead {c : Int → Ins} {st : Int} {D : List Int} {g : Int → Option Value} (h : MInv c st D g []) (x : Int) : (Lead c st D x ∧ g x = some (.bool true)) ∨ (¬ Lead c st D x ∧ g x = none) := by
  by_cases hx : Lead c st D x
  · refine .inl ⟨hx, ?_⟩
    rcases hx with rfl | ⟨a, ha, hm⟩
    · exact h.start
    · rcases h.done a ha with h1 | h1
      · cases h1
      · exact h1 x hm
  · refine .inr ⟨hx, ?_⟩
    rcases h.sound x with h1 | h1
    · exact h1
    · exact absurd h1.2 hx

/-- The memory in leaders. -/
structure LM (w wr : World) (r fb mb : Nat) (f : Int → Option Value) (left : List Int) (g : Int → Option Value) : Prop where
  m1 : mb = w.heap.size + 1
  r1 : r = w.heap.size + 2
  fb1 : fb < w.heap.size
  bel : Below w.heap.size w wr
  it : Ir wr r fb f left
  map : Im wr mb g
theorem LM.below {w wr wr' : World} {r fb mb : Nat} {f g : Int → Option Value} {left : List Int} (h : LM w wr r fb mb f left g) (hb : Below wr.heap.size wr wr') : LM w wr' r fb mb f left g :=
  ⟨h.m1, h.r1, h.fb1, h.bel.trans (hb.mono h.bel.size), h.it.keep (hb.block _ h.it.lt.1) (hb.block _ h.it.lt.2.1), h.map.below hb h.map.lt⟩
theorem LM.put {w wr wr' : World} {r fb mb : Nat} {f g g' : Int → Option Value} {left : List Int} (h : LM w wr r fb mb f left g) (hm : Im wr' mb g') (ho : wr'.os = wr.os) (ht : wr'.tape = wr.tape) (hp : wr'.output = wr.output) (hs : wr'.heap.size = wr.heap.size) (hk : ∀ i, i ≠ mb → wr'.heap[i]? = wr.heap[i]?) : LM w wr' r fb mb f left g' :=
  ⟨h.m1, h.r1, h.fb1, h.bel.trans ⟨ho, ht, hp, by omega, fun k hk' => hk k (by have := h.m1; omega)⟩, h.it.keep (hk _ (by have := h.m1; have := h.r1; omega)) (hk _ (by have := h.m1; have := h.fb1; omega)), hm⟩
theorem LM.step {w wr wr' : World} {r fb mb : Nat} {f g : Int → Option Value} {left left' : List Int} (h : LM w wr r fb mb f left g) (hi : Ir wr' r fb f left') (ho : wr'.os = wr.os) (ht : wr'.tape = wr.tape) (hp : wr'.output = wr.output) (hs : wr'.heap.size = wr.heap.size) (hk : ∀ i, i ≠ r → wr'.heap[i]? = wr.heap[i]?) : LM w wr' r fb mb f left' g :=
  ⟨h.m1, h.r1, h.fb1, h.bel.trans ⟨ho, ht, hp, by omega, fun k hk' => hk k (by have := h.r1; omega)⟩, hi, h.map.keep (hk _ (by have := h.m1; have := h.r1; omega))⟩
theorem bool_zero (w : World) : (zeroValue 4).run Tryd.prog w = .ok (.bool false) w := by kernel_rfl

set_option maxHeartbeats 4000000 in
set_option maxRecDepth 20000 in
theorem leaders_any (nm : ByteArray) (st en da : Int) (fb : Nat) (c : Int → Ins) (D : List Int) (w : World) (hst : 0 ≤ st ∧ st ≤ 1000000) (hD : ∀ a ∈ D, (0 ≤ a ∧ a ≤ 1000000) ∧ (-1000000 ≤ (c a).imm ∧ (c a).imm ≤ 1000000)) (hF : Im w fb (fnd c D)) :
    Calls Tryd.prog 37 #[.agg #[.string nm, .int .i64 st, .int .i64 en, .int .i64 da], .map (some fb)] w fun e w' => ∃ mb g, e = .returned (.map (some mb)) ∧ w.heap.size ≤ mb ∧ MInv c st D g [] ∧ Im w' mb g ∧ Below w.heap.size w w' := by
  have hfb := hF.lt
  have mk := fun W : World => (show (Instr.makeMap 91 none).run Tryd.prog W = .ok (.map (some W.heap.size)) (W.alloc (.map #[] 0)) from rfl)
  obtain ⟨V0, l0, m0, o1, o2, o3, o4, o5⟩ := (Im.made (w.alloc (.cells #[.string nm, .int .i64 st, .int .i64 en, .int .i64 da] 39))).put (P := Tryd.prog) (kt := 3) (t := 91) (e := 4) Tryd.underlying3 Tryd.underlying91 (k := st) (kwf_of (by omega) (by omega)) (.bool true)
  simp only [kv, World.size_alloc] at l0 m0 o4 o5
  have b0 : Below w.heap.size w V0 := ((((Below.refl _ _).alloc (Nat.le_refl _) _).alloc (by simp) _) : Below w.heap.size w ((w.alloc (.cells #[.string nm, .int .i64 st, .int .i64 en, .int .i64 da] 39)).alloc (.map #[] 0))).trans ⟨o1, o2, o3, by simp; omega, fun k hk => o5 k (by omega)⟩
  obtain ⟨o, left0, l1, r0, hleft⟩ := (hF.below b0 hfb).range (P := Tryd.prog) (kt := 3) (t := 88) (e := 53) Tryd.underlying88
  rw [o4] at l1 r0
  have hm0 : MInv c st D (updo (fun _ => none) st (.bool true)) left0 := by
    refine ⟨fun x => ?_, by simp [updo], fun a ha => .inl (hleft a (c a).val (by simp [fnd, ha]))⟩
    unfold updo
    by_cases e : x = st
    · rw [if_pos e]; exact .inr ⟨rfl, .inl e⟩
    · rw [if_neg e]; exact .inl rfl
  have hlm : LM w (V0.alloc o) (w.heap.size + 1 + 1) fb (w.heap.size + 1) (fnd c D) left0 (updo (fun _ => none) st (.bool true)) :=
    ⟨rfl, rfl, hfb, b0.alloc (by have := b0.size; omega) _, r0, m0.keep (heap_alloc_old _ _ (by omega))⟩
  have HM0 := Lib.hid hm0
  have HL0 := Lib.hid hlm
  have HDD := Lib.hid hD
  clear hm0 hlm hD hleft r0 m0 o5 o1 o2 o3 hF b0
  go_enter Tryd.func37, Tryd.ntmps37
  go_upto_region 3 with fail
  obtain ⟨V, hV⟩ : ∃ V, V0.alloc o = V := ⟨_, rfl⟩
  rw [hV] at HL0 ⊢
  obtain ⟨mb, hmb⟩ : ∃ mb, w.heap.size + 1 = mb := ⟨_, rfl⟩
  rw [hmb] at HL0 ⊢
  obtain ⟨r, hr⟩ : ∃ r, mb + 1 = r := ⟨_, rfl⟩
  rw [hr] at HL0 ⊢
  clear hV l0 l1 o4
  go_loopg [6, 7, 9] (left0.length) (fun gk a6 a7 a9 wr => ∃ (left : List Int) (g : Int → Option Value), gk = left.length ∧ MInv c st D g left ∧ LM w wr r fb mb (fnd c D) left g)
  case atStart => exact ⟨left0, _, rfl, HM0.out, HL0.out⟩
  case round =>
    obtain ⟨left, g, rfl, hM, hL⟩ := hrel
    have HM := Lib.hid hM
    have HL := Lib.hid hL
    clear HM0 HL0 hM hL
    rcases HL.out.it.next (P := Tryd.prog) 0 with ⟨hl, hrun⟩ | ⟨a, v, left', Wn, ha, hv, hlen, hcov, hit, hrun, hent, o1, o2, o3, o4, o5⟩
    · subst hl
      have hnx : ∀ ty, (Instr.next (.pointer (some ⟨r, 0, none⟩)) false ty).run Tryd.prog wr = _ := fun _ => hrun
      clear hrun
      go_wp2_with fail
      go_ret
      exact ⟨mb, g, rfl, by omega, HM.out, HL.out.map, HL.out.bel⟩
    · have hnx : ∀ ty, (Instr.next (.pointer (some ⟨r, 0, none⟩)) false ty).run Tryd.prog wr = _ := fun _ => hrun
      clear hrun
      have haD : a ∈ D := by
        unfold fnd at hv
        split at hv
        · assumption
        · cases hv
      have hva : v = (c a).val := by
        unfold fnd at hv
        rw [if_pos haD] at hv
        exact (Option.some.inj hv).symm
      subst hva
      obtain ⟨⟨p1, p2⟩, p3, p4⟩ := HDD.out a haD
      have HL1 := Lib.hid (HL.out.step hit o1 o2 o3 o4 o5)
      have HCV := Lib.hid hcov
      have HLE := Lib.hid hlen
      have HLd := Lib.hid (fun x (hx : x ∈ marksI (c a) a) => (show Lead c st D x from .inr ⟨a, haD, hx⟩))
      obtain ⟨i, hi⟩ : ∃ i, c a = i := ⟨_, rfl⟩
      rw [hi] at HLd hnx hent p3 p4
      have hdrop : ∀ g', MInv c st D g' left → (∀ x ∈ marksI i a, g' x = some (.bool true)) → MInv c st D g' left' := fun g' q1 q2 => q1.drop hcov (by rw [hi]; exact q2)
      have HDR := Lib.hid hdrop
      clear hit hv hcov hlen hi ha o5 o1 o2 o3 hdrop HL
      simp only [Ins.val, kv] at hnx hent
      obtain ⟨op, ia, ib, ic, imm⟩ := i
      simp only at hnx hent p3 p4
      have HB := isBranch_any op
      rcases hb : isBr op
      · rw [hb] at HB
        by_cases q1 : op = 28
        · have d1 : (op == 28) = true := by simp [q1]
          have HMK := Lib.hid (show marksI ⟨op, ia, ib, ic, imm⟩ a = [a] by unfold marksI; rw [if_neg (by simp [hb]), if_pos q1])
          clear hb q1
          go_upto_region 12 with (go_at_call 24; refine (HB _).mono ?_; rintro e w' ⟨rfl, rfl⟩)
          obtain ⟨X, hX⟩ : ∃ X, Wn.alloc (.cells #[.int .u8 op, .int .i64 ia, .int .i64 ib, .int .i64 ic, .int .i64 imm] 53) = X := ⟨_, rfl⟩
          have HLX := Lib.hid (hX ▸ HL1.out.below ((Below.refl _ _).alloc (Nat.le_refl _) _))
          rw [hX]
          obtain ⟨V3, l2, m3, o1, o2, o3, o4', o5⟩ := HLX.out.map.put (P := Tryd.prog) (kt := 3) (t := 91) (e := 4) Tryd.underlying3 Tryd.underlying91 (k := a) (kwf_of (by omega) (by omega)) (.bool true)
          simp only [kv] at l2
          have HL3 := Lib.hid (HLX.out.put m3 o1 o2 o3 o4' o5)
          clear hX m3 o1 o2 o3 o4' o5 hnx hent
          go_wp2_with fail
          go_roundg (left'.length)
          case measure => exact HLE.out
          case rel =>
            refine ⟨left', _, rfl, HDR.out _ (HM.out.add (HLd.out _ ?_)) ?_, HL3.out⟩
            · rw [HMK.out]; simp
            · rw [HMK.out]; simp [updo]
        · have d1 : (op == 28) = false := by simp [q1]
          by_cases q2 : op = 29
          · have d2 : (op == 29) = true := by simp [q2]
            have HMK := Lib.hid (show marksI ⟨op, ia, ib, ic, imm⟩ a = [a + 1] by unfold marksI; rw [if_neg (by simp [hb]), if_neg q1, if_pos q2])
            have w1 : IntKind.i64.wrap (a + 1) = a + 1 := IntWalk.i64_in _ (by omega)
            clear hb q1 q2
            go_upto_region 14 with (go_at_call 24; refine (HB _).mono ?_; rintro e w' ⟨rfl, rfl⟩)
            obtain ⟨X, hX⟩ : ∃ X, Wn.alloc (.cells #[.int .u8 op, .int .i64 ia, .int .i64 ib, .int .i64 ic, .int .i64 imm] 53) = X := ⟨_, rfl⟩
            have HLX := Lib.hid (hX ▸ HL1.out.below ((Below.refl _ _).alloc (Nat.le_refl _) _))
            rw [hX]
            obtain ⟨V3, l2, m3, o1, o2, o3, o4', o5⟩ := HLX.out.map.put (P := Tryd.prog) (kt := 3) (t := 91) (e := 4) Tryd.underlying3 Tryd.underlying91 (k := a + 1) (kwf_of (by omega) (by omega)) (.bool true)
            simp only [kv] at l2
            have HL3 := Lib.hid (HLX.out.put m3 o1 o2 o3 o4' o5)
            clear hX m3 o1 o2 o3 o4' o5 hnx hent
            go_wp2_with fail
            go_roundg (left'.length)
            case measure => exact HLE.out
            case rel =>
              refine ⟨left', _, rfl, HDR.out _ (HM.out.add (HLd.out _ ?_)) ?_, HL3.out⟩
              · rw [HMK.out]; simp
              · rw [HMK.out]; simp [updo]
          · have d2 : (op == 29) = false := by simp [q2]
            have HMK := Lib.hid (show marksI ⟨op, ia, ib, ic, imm⟩ a = [] by unfold marksI; rw [if_neg (by simp [hb]), if_neg q1, if_neg q2])
            clear hb q1 q2
            go_wp2_with (go_at_call 24; refine (HB _).mono ?_; rintro e w' ⟨rfl, rfl⟩)
            go_roundg (left'.length)
            case measure => exact HLE.out
            case rel => exact ⟨left', _, rfl, HDR.out _ HM.out (by rw [HMK.out]; simp), HL1.out.below ((Below.refl _ _).alloc (Nat.le_refl _) _)⟩
      · rw [hb] at HB
        have HMK := Lib.hid (show marksI ⟨op, ia, ib, ic, imm⟩ a = succI ⟨op, ia, ib, ic, imm⟩ a by unfold marksI; rw [if_pos hb])
        have HSC := Lib.hid (fun W : World => successors_any ⟨op, ia, ib, ic, imm⟩ a W p1 p2 p3 p4)
        clear hb
        simp only at HSC
        go_upto_region 7 with (first | (go_at_call 24; refine (HB _).mono ?_; rintro e w' ⟨rfl, rfl⟩) | (go_at_call 38; refine (HSC.out _).mono ?_; rintro e W4 ⟨⟨v, rfl, ⟨SA, scap, rfl, sc1, sc2, sc3⟩, sc4⟩, hb4⟩))
        obtain ⟨L, hL⟩ : ∃ L, succI ⟨op, ia, ib, ic, imm⟩ a = L := ⟨_, rfl⟩
        have hL2 : L.length ≤ 2 := hL ▸ succI_len _ _
        rw [hL] at HMK sc1 sc3 sc4 ⊢
        have HLX := Lib.hid ((HL1.out.below ((Below.refl _ _).alloc (Nat.le_refl _) _)).below hb4)
        have I4 := Lib.hid (show Ints W4 (.slice SA L.length scap) L from ⟨SA, scap, rfl, sc1, sc2, sc3⟩)
        have hsz : r < Wn.heap.size := HL1.out.it.lt.1
        have DJ := Lib.hid (show ∀ q, (Value.slice SA L.length scap).ownBlock = some q → some mb ≠ some q from fun q hq e => by
          have := sc4 q hq
          rw [World.size_alloc] at this
          cases e
          omega)
        have HLW := Lib.hid (show ∀ x ∈ L, 0 ≤ x + 2000000 ∧ x ≤ 3000000 from fun x hx => by
          rw [← hL] at hx
          unfold succI at hx
          split at hx
          · cases hx
          · split at hx
            · simp at hx; omega
            · split at hx
              · simp at hx; omega
              · simp at hx; omega)
        clear hL sc1 sc2 sc3 sc4 hb4 hnx hent HSC HB p1 p2 p3 p4 o4
        obtain ⟨wo, rfl⟩ : ∃ wo : World, wo = wr := ⟨_, rfl⟩
        go_loopw [9, 29] (fun a9 a29 wr => ∃ (j : Nat) (g' : Int → Option Value), j ≤ L.length ∧ a29 = .int .i64 (j : Int) ∧ MInv c st D g' left ∧ (∀ x ∈ L.take j, g' x = some (.bool true)) ∧ LM w wr r fb mb (fnd c D) left' g' ∧ Ints wr (.slice SA L.length scap) L) (fun _ a29 _ => L.length - (intOf a29).toNat)
        case atStart => exact ⟨0, g, Nat.zero_le _, rfl, HM.out, by simp, HLX.out, I4.out⟩
        case round =>
          obtain ⟨j, g', hj, rfl, hM', htk, hL', hI'⟩ := hrel
          have HM' := Lib.hid hM'
          have HTK := Lib.hid htk
          have HL' := Lib.hid hL'
          have HI' := Lib.hid hI'
          clear hM' htk hL' hI' HLX I4
          by_cases hlt : j < L.length
          · obtain ⟨A', cap2, hv, i1, i2, i3⟩ := HI'.out
            cases hv
            obtain ⟨sb, so, rfl, hsb, hsc⟩ := i3 (by omega)
            obtain ⟨s, hs⟩ : ∃ s, L[j] = s := ⟨_, rfl⟩
            have x1 : wr.cell? ⟨sb, so + j, none⟩ = some (.int .i64 s) := by rw [hsc j hlt, ← hs]; simp [List.getD, List.getElem?_eq_getElem hlt]
            have hsm : s ∈ L := hs ▸ List.getElem_mem hlt
            have hsr := HLW.out s hsm
            have HTK2 := Lib.hid (show L.take (j + 1) = L.take j ++ [s] by rw [List.take_add_one, List.getElem?_eq_getElem hlt, hs]; rfl)
            have dl : decide ((j : Int) < (L.length : Int)) = true := by simpa using hlt
            unfold maxLen at i2
            obtain ⟨V3, l2, m3, o1, o2, o3, o4', o5⟩ := HL'.out.map.put (P := Tryd.prog) (kt := 3) (t := 91) (e := 4) Tryd.underlying3 Tryd.underlying91 (k := s) (kwf_of (by omega) (by omega)) (.bool true)
            simp only [kv] at l2
            have HL3 := Lib.hid (HL'.out.put m3 o1 o2 o3 o4' o5)
            have HI3 := Lib.hid (HI'.out.grown (grown_setBlock o1 o2 o3 o4' o5) DJ.out)
            have HM3 := Lib.hid (HM'.out.add (HLd.out s (by rw [HMK.out]; exact hsm)))
            clear hsc i3 hs m3 o1 o2 o3 o4' o5
            go_wp2_with fail
            go_roundw
            case rel =>
              refine ⟨j + 1, _, by omega, by go_num, HM3.out, fun x hx => ?_, HL3.out, HI3.out⟩
              rw [HTK2.out] at hx
              unfold updo
              split
              · rfl
              · rename_i hne
                rcases List.mem_append.1 hx with h | h
                · exact HTK.out x h
                · simp at h; exact absurd h hne
            case measure => simp [intOf]; omega
          · obtain rfl : j = L.length := by omega
            have dl : decide ((L.length : Int) < (L.length : Int)) = false := by simp
            rw [List.take_length] at HTK
            go_wp2_with fail
            go_roundg (left'.length)
            case measure => exact HLE.out
            case rel => exact ⟨left', _, rfl, HDR.out _ HM'.out (by rw [HMK.out]; exact HTK.out), HL'.out⟩

end Go.Proofs.YtfceodpdipniaaaDoor
