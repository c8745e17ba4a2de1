/-
  What is proved here: what linker.Check returns.
-/
import Derived.Test.YtfceodpdipniaaaDoorCgChk
namespace Go.Proofs.YtfceodpdipniaaaDoor
open Go.RowKit
set_option linter.unusedVariables false
set_option linter.unusedSimpArgs false

def Chain : Int → List Ent → Int → Prop
  | a, [], z => a = z
  | a, e :: es, z => e.st = a ∧ e.st < e.en ∧ Chain e.en es z
theorem Chain.append {l2 : List Ent} : ∀ {l1 : List Ent} {a z : Int}, Chain a (l1 ++ l2) z ↔ ∃ m, Chain a l1 m ∧ Chain m l2 z
  | [], a, z => ⟨fun h => ⟨a, rfl, h⟩, fun ⟨m, h1, h2⟩ => by cases h1; exact h2⟩
  | e :: l1, a, z => by
    constructor
    · rintro ⟨h1, h2, h3⟩
      obtain ⟨m, h4, h5⟩ := Chain.append.1 h3
      exact ⟨m, ⟨h1, h2, h4⟩, h5⟩
    · rintro ⟨m, ⟨h1, h2, h3⟩, h4⟩
      exact ⟨h1, h2, Chain.append.2 ⟨m, h3, h4⟩⟩
theorem Chain.det : ∀ {l : List Ent} {a z z' : Int}, Chain a l z → Chain a l z' → z = z'
  | [], a, z, z', h, h' => by cases h; exact h'
  | e :: l, a, z, z', h, h' => Chain.det h.2.2 h'.2.2
theorem Chain.le : ∀ {l : List Ent} {a z : Int}, Chain a l z → a ≤ z
  | [], a, z, h => by cases h; exact Int.le_refl _
  | e :: l, a, z, ⟨h1, h2, h3⟩ => by have := Chain.le h3; omega
theorem Chain.bounds : ∀ {l : List Ent} {a z : Int}, Chain a l z → ∀ e ∈ l, a ≤ e.st ∧ e.st < e.en ∧ e.en ≤ z
  | [], a, z, h, e, he => by cases he
  | e :: l, a, z, ⟨h1, h2, h3⟩, e', he => by
    rcases List.mem_cons.1 he with rfl | he
    · have := Chain.le h3; omega
    · have := Chain.bounds h3 e' he; omega
theorem Chain.snoc {l : List Ent} {e : Ent} {a m : Int} (h : Chain a l m) (h1 : e.st = m) (h2 : e.st < e.en) : Chain a (l ++ [e]) e.en :=
  Chain.append.2 ⟨m, h, h1, h2, rfl⟩

structure GoodI (n : Nat) (cd : Nat → Int) (ents : List Ent) (sh lk : Int) : Prop where
  code : n ≤ 4096
  cnt : ents.length ≤ 8
  shB : 0 ≤ sh ∧ sh ≤ 64
  lkB : 0 ≤ lk ∧ lk ≤ 4
  da : ∀ e ∈ ents, 0 ≤ e.da ∧ e.da ≤ 512
  nm : ∀ e ∈ ents, 1 ≤ e.nm.size ∧ e.nm.size ≤ 12
  ch : Chain 0 ents n
  ins : ∀ e ∈ ents, ∀ k : Nat, e.st ≤ k → (k : Int) < e.en → OkIns cd lk e.st e.en k

theorem take_snoc {α : Type} {l : List α} {j : Nat} {e : α} (h : l[j]? = some e) : l.take (j + 1) = l.take j ++ [e] := by
  rw [List.take_add_one, h]; rfl
/-- The entries, at an index, in a later world. -/
theorem Ents.cells {w wr : World} {A : Option Addr} {cap : Nat} {l : List Ent} (h : Ents w (.slice A l.length cap) l) (hb : Below w.heap.size w wr) {j : Nat} (hj : j < l.length) :
    ∃ e b off, l[j]? = some e ∧ A = some ⟨b, off, none⟩ ∧ b < w.heap.size ∧ wr.cell? ⟨b, off + j * 4, none⟩ = some (.string e.nm) ∧ wr.cell? ⟨b, off + j * 4 + 1, none⟩ = some (.int .i64 e.st) ∧ wr.cell? ⟨b, off + j * 4 + 2, none⟩ = some (.int .i64 e.en) ∧ wr.cell? ⟨b, off + j * 4 + 3, none⟩ = some (.int .i64 e.da) := by
  obtain ⟨A', cap', hv, h2, h3, h4⟩ := (h.below hb).at_
  cases hv
  obtain ⟨A', cap', hv, h2', h3', h4'⟩ := h.at_
  cases hv
  obtain ⟨b, off, rfl, hlt, hc⟩ := h4 (by omega)
  obtain ⟨b', off', hA, hlt', _⟩ := h4' (by omega)
  cases hA
  have he : l[j]? = some l[j] := List.getElem?_eq_getElem hj
  obtain ⟨c0, c1, c2, c3⟩ := hc j _ he
  exact ⟨l[j], b, off, he, rfl, hlt', c0, c1, c2, c3⟩

set_option maxHeartbeats 4000000 in
set_option maxRecDepth 20000 in
theorem check_any (cv ev : Value) (sh lk : Int) (n : Nat) (cd : Nat → Int) (ents : List Ent) (w : World) (T : Tab w) (HW : Words w cv n cd) (HE : Ents w ev ents) :
    Calls Tryd.prog 13 #[.agg #[cv, ev, .int .i64 sh, .int .i64 lk]] w fun e w' => (∃ r, e = .returned (.int .i64 r) ∧ (r = 0 ↔ GoodI n cd ents sh lk)) ∧ Below w.heap.size w w' := by
  have hn := HW.le
  obtain ⟨A, cap, hcv, hc1, hc2, hrd⟩ := HW.at_
  obtain ⟨EA, ecap, hev, he1, he2, hed⟩ := HE.at_
  have h63 : ents.length ≤ 2 ^ 63 - 1 := by unfold maxLen at he2; omega
  have HWH := Lib.hid HW
  have HEH := Lib.hid HE
  have HT := Lib.hid T
  clear hrd hed HW HE T
  subst hcv hev
  have HBT := between_any
  obtain ⟨V0, hV0⟩ : ∃ V0, w.alloc (.cells #[.slice A n cap, .slice EA ents.length ecap, .int .i64 sh, .int .i64 lk] 25) = V0 := ⟨_, rfl⟩
  have b0 : Below w.heap.size w V0 := hV0 ▸ (Below.refl _ _).alloc (Nat.le_refl _) _
  have s0 : w.heap.size < V0.heap.size := by rw [← hV0]; simp
  have k0 : V0.heap[w.heap.size]? = some (.cells #[.slice A n cap, .slice EA ents.length ecap, .int .i64 sh, .int .i64 lk] 25) := by rw [← hV0]; exact heap_alloc_new _ _
  have y0 : V0.cell? ⟨w.heap.size, 0, none⟩ = some (.slice A n cap) := by simp [World.cell?, k0]
  have y1 : V0.cell? ⟨w.heap.size, 1, none⟩ = some (.slice EA ents.length ecap) := by simp [World.cell?, k0]
  have y2 : V0.cell? ⟨w.heap.size, 2, none⟩ = some (.int .i64 sh) := by simp [World.cell?, k0]
  have y3 : V0.cell? ⟨w.heap.size, 3, none⟩ = some (.int .i64 lk) := by simp [World.cell?, k0]
  have K0 := Lib.hid k0
  have B0 := Lib.hid b0
  clear k0 b0
  by_cases q1 : n ≤ 4096
  case neg =>
    have d1 : decide ((4096 : Int) < (n : Int)) = true := by simp; omega
    go_enter Tryd.func13, Tryd.ntmps13
    go_wp2_with fail
    go_ret
    exact ⟨⟨2, rfl, by simp; intro h; exact q1 h.code⟩, B0.out⟩
  have d1 : decide ((4096 : Int) < (n : Int)) = false := by simp; omega
  by_cases q2 : ents.length ≤ 8
  case neg =>
    have d2 : decide ((8 : Int) < (ents.length : Int)) = true := by simp; omega
    go_enter Tryd.func13, Tryd.ntmps13
    go_wp2_with fail
    go_ret
    exact ⟨⟨2, rfl, by simp; intro h; exact q2 h.cnt⟩, B0.out⟩
  have d2 : decide ((8 : Int) < (ents.length : Int)) = false := by simp; omega
  by_cases q3 : 0 ≤ sh ∧ sh ≤ 64
  case neg =>
    have d3 : decide (0 ≤ sh ∧ sh ≤ 64) = false := decide_eq_false q3
    have H3 : ∀ W : World, Calls Tryd.prog 40 #[.int .i64 sh, .int .i64 64] W fun e w' => e = .returned (.bool false) ∧ W = w' := fun W => by have := between_any sh 64 W; rwa [d3] at this
    clear d3 HBT
    go_enter Tryd.func13, Tryd.ntmps13
    go_wp2_with (go_at_call 40; refine (H3 _).mono ?_; rintro e w' ⟨rfl, rfl⟩)
    go_ret
    exact ⟨⟨2, rfl, by simp; intro h; exact q3 h.shB⟩, B0.out⟩
  have H3 : ∀ W : World, Calls Tryd.prog 40 #[.int .i64 sh, .int .i64 64] W fun e w' => e = .returned (.bool true) ∧ W = w' := fun W => by have := between_any sh 64 W; rwa [decide_eq_true q3] at this
  by_cases q4 : 0 ≤ lk ∧ lk ≤ 4
  case neg =>
    have H4 : ∀ W : World, Calls Tryd.prog 40 #[.int .i64 lk, .int .i64 4] W fun e w' => e = .returned (.bool false) ∧ W = w' := fun W => by have := between_any lk 4 W; rwa [decide_eq_false q4] at this
    clear HBT
    go_enter Tryd.func13, Tryd.ntmps13
    go_wp2_with (go_at_call 40; (first | (with_reducible refine (H3 _).mono ?_) | (with_reducible refine (H4 _).mono ?_)); rintro e w' ⟨rfl, rfl⟩)
    go_ret
    exact ⟨⟨2, rfl, by simp; intro h; exact q4 h.lkB⟩, B0.out⟩
  have H4 : ∀ W : World, Calls Tryd.prog 40 #[.int .i64 lk, .int .i64 4] W fun e w' => e = .returned (.bool true) ∧ W = w' := fun W => by have := between_any lk 4 W; rwa [decide_eq_true q4] at this
  go_enter Tryd.func13, Tryd.ntmps13
  go_upto_region 5 with (go_at_call 40; (first | (with_reducible refine (H3 _).mono ?_) | (with_reducible refine (H4 _).mono ?_)); rintro e w' ⟨rfl, rfl⟩)
  clear H3 H4 hV0 d1 d2
  go_loopw [5, 42] (fun a5 a42 wr => ∃ j : Nat, j ≤ ents.length ∧ a42 = .int .i64 (j : Int) ∧ (∀ e ∈ ents.take j, 0 ≤ e.da ∧ e.da ≤ 512) ∧ Below V0.heap.size V0 wr) (fun _ a42 _ => ents.length - (intOf a42).toNat)
  case atStart => exact ⟨0, Nat.zero_le _, rfl, by simp, Below.refl _ _⟩
  case round =>
    obtain ⟨j, hj, rfl, hda, hb⟩ := hrel
    have HDA := Lib.hid hda
    have HB := Lib.hid hb
    have BW := Lib.hid (B0.out.trans (hb.mono (by omega)))
    have s1 := hb.size
    clear hda hb
    by_cases hlt : j < ents.length
    · obtain ⟨e, b, off, he, rfl, hbl, c0, c1, c2, c3⟩ := HEH.out.cells BW.out hlt
      have HTK := Lib.hid (take_snoc he)
      have HEM := Lib.hid (List.mem_of_getElem? he)
      have dl : decide ((j : Int) < (ents.length : Int)) = true := by simpa using hlt
      clear he
      by_cases q5 : 0 ≤ e.da ∧ e.da ≤ 512
      · have H5 : ∀ W : World, Calls Tryd.prog 40 #[.int .i64 e.da, .int .i64 512] W fun e w' => e = .returned (.bool true) ∧ W = w' := fun W => by have := between_any e.da 512 W; rwa [decide_eq_true q5] at this
        go_wp2_with (go_at_call 40; refine (H5 _).mono ?_; rintro e w' ⟨rfl, rfl⟩)
        go_roundw
        case rel =>
          refine ⟨j + 1, by omega, by go_num, fun x hx => ?_, HB.out.alloc (by omega) _⟩
          rw [HTK.out] at hx
          rcases List.mem_append.1 hx with h | h
          · exact HDA.out x h
          · simp at h; rw [h]; exact q5
        case measure => simp [intOf]; omega
      · have H5 : ∀ W : World, Calls Tryd.prog 40 #[.int .i64 e.da, .int .i64 512] W fun e w' => e = .returned (.bool false) ∧ W = w' := fun W => by have := between_any e.da 512 W; rwa [decide_eq_false q5] at this
        go_wp2_with (go_at_call 40; refine (H5 _).mono ?_; rintro e w' ⟨rfl, rfl⟩)
        go_ret
        exact ⟨⟨2, rfl, by simp; intro h; exact q5 (h.da e HEM.out)⟩, BW.out.alloc (by omega) _⟩
    · obtain rfl : j = ents.length := by omega
      have dl : decide ((ents.length : Int) < (ents.length : Int)) = false := by simp
      rw [List.take_length] at HDA
      obtain ⟨V1, rfl⟩ : ∃ V1 : World, V1 = wr := ⟨_, rfl⟩
      have z0 : V1.cell? ⟨w.heap.size, 0, none⟩ = some (.slice A n cap) := by rw [HB.out.cell (p := ⟨w.heap.size, 0, none⟩) s0]; exact y0
      have z1 : V1.cell? ⟨w.heap.size, 1, none⟩ = some (.slice EA ents.length ecap) := by rw [HB.out.cell (p := ⟨w.heap.size, 1, none⟩) s0]; exact y1
      clear hlt
      go_upto_region 11 with fail
      go_loopw [7, 55] (fun a7 a55 wr => ∃ j : Nat, j ≤ ents.length ∧ a55 = .int .i64 (j : Int) ∧ (∀ e ∈ ents.take j, 1 ≤ e.nm.size ∧ e.nm.size ≤ 12) ∧ Below V0.heap.size V0 wr) (fun _ a55 _ => ents.length - (intOf a55).toNat)
      case atStart => exact ⟨0, Nat.zero_le _, rfl, by simp, HB.out⟩
      case round =>
        obtain ⟨j, hj, rfl, hnm, hb⟩ := hrel
        have HNM := Lib.hid hnm
        clear HB BW z0 z1
        have HB := Lib.hid hb
        have BW := Lib.hid (B0.out.trans (hb.mono (by omega)))
        have s1 := hb.size
        clear hnm hb dl
        by_cases hlt : j < ents.length
        · obtain ⟨e, b, off, he, rfl, hbl, c0, c1, c2, c3⟩ := HEH.out.cells BW.out hlt
          have HTK := Lib.hid (take_snoc he)
          have HEM := Lib.hid (List.mem_of_getElem? he)
          have hnl := HEH.out.nm e HEM.out
          have dl : decide ((j : Int) < (ents.length : Int)) = true := by simpa using hlt
          clear he
          by_cases q5 : 1 ≤ e.nm.size ∧ e.nm.size ≤ 12
          · have H5 : ∀ W : World, Calls Tryd.prog 41 #[.string e.nm] W fun e w' => e = .returned (.bool true) ∧ W = w' := fun W => by have := goodName_any e.nm W hnl; rwa [decide_eq_true q5] at this
            go_wp2_with (go_at_call 41; refine (H5 _).mono ?_; rintro e w' ⟨rfl, rfl⟩)
            go_roundw
            case rel =>
              refine ⟨j + 1, by omega, by go_num, fun x hx => ?_, HB.out.alloc (by omega) _⟩
              rw [HTK.out] at hx
              rcases List.mem_append.1 hx with h | h
              · exact HNM.out x h
              · simp at h; rw [h]; exact q5
            case measure => simp [intOf]; omega
          · have H5 : ∀ W : World, Calls Tryd.prog 41 #[.string e.nm] W fun e w' => e = .returned (.bool false) ∧ W = w' := fun W => by have := goodName_any e.nm W hnl; rwa [decide_eq_false q5] at this
            go_wp2_with (go_at_call 41; refine (H5 _).mono ?_; rintro e w' ⟨rfl, rfl⟩)
            go_ret
            exact ⟨⟨6, rfl, by simp; intro h; exact q5 (h.nm e HEM.out)⟩, BW.out.alloc (by omega) _⟩
        · obtain rfl : j = ents.length := by omega
          have dl : decide ((ents.length : Int) < (ents.length : Int)) = false := by simp
          rw [List.take_length] at HNM
          obtain ⟨V2, rfl⟩ : ∃ V2 : World, V2 = wr := ⟨_, rfl⟩
          have z0 : V2.cell? ⟨w.heap.size, 0, none⟩ = some (.slice A n cap) := by rw [HB.out.cell (p := ⟨w.heap.size, 0, none⟩) s0]; exact y0
          have z1 : V2.cell? ⟨w.heap.size, 1, none⟩ = some (.slice EA ents.length ecap) := by rw [HB.out.cell (p := ⟨w.heap.size, 1, none⟩) s0]; exact y1
          clear hlt
          go_upto_region 18 with fail
          go_loopw [8, 10, 67] (fun a8 a10 a67 wr => ∃ (j : Nat) (m : Int), j ≤ ents.length ∧ a67 = .int .i64 (j : Int) ∧ a8 = .int .i64 m ∧ Chain 0 (ents.take j) m ∧ Below V0.heap.size V0 wr) (fun _ _ a67 _ => ents.length - (intOf a67).toNat)
          case atStart => exact ⟨0, 0, Nat.zero_le _, rfl, rfl, rfl, HB.out⟩
          case round =>
            obtain ⟨j, m, hj, rfl, rfl, hch, hb⟩ := hrel
            have HCH := Lib.hid hch
            clear HB BW z0 z1
            have HB := Lib.hid hb
            have BW := Lib.hid (B0.out.trans (hb.mono (by omega)))
            have s1 := hb.size
            clear hch hb dl
            by_cases hlt : j < ents.length
            · obtain ⟨e, b, off, he, rfl, hbl, c0, c1, c2, c3⟩ := HEH.out.cells BW.out hlt
              have HTK := Lib.hid (take_snoc he)
              have HNO := Lib.hid (show ¬ (e.st = m ∧ e.st < e.en) → ∀ z, ¬ Chain 0 ents z from fun hno z hz => by
                have e1 : ents = ents.take j ++ (e :: ents.drop (j + 1)) := by
                  have := List.take_append_drop j ents
                  rw [List.drop_eq_getElem_cons hlt] at this
                  have e2 : ents[j] = e := by rw [List.getElem?_eq_getElem hlt] at he; exact Option.some.inj he
                  rw [e2] at this
                  exact this.symm
                rw [e1] at hz
                obtain ⟨m', h1, h2⟩ := Chain.append.1 hz
                have := Chain.det HCH.out h1
                exact hno ⟨by rw [this]; exact h2.1, h2.2.1⟩)
              have dl : decide ((j : Int) < (ents.length : Int)) = true := by simpa using hlt
              clear he
              by_cases q5 : e.st = m
              · by_cases q6 : e.st < e.en
                · have d5 : (e.st != m) = false := by simp [q5]
                  have d6 : decide (e.en ≤ e.st) = false := by simp; omega
                  have HQ := Lib.hid (And.intro q5 q6)
                  clear q5 q6
                  go_wp2_with fail
                  go_roundw
                  case rel =>
                    refine ⟨j + 1, e.en, by omega, by go_num, rfl, ?_, HB.out.alloc (by omega) _⟩
                    rw [HTK.out]
                    exact HCH.out.snoc HQ.out.1 HQ.out.2
                  case measure => simp [intOf]; omega
                · have d5 : (e.st != m) = false := by simp [q5]
                  have d6 : decide (e.en ≤ e.st) = true := by simp; omega
                  have HQ := Lib.hid (HNO.out (fun h => q6 h.2))
                  clear q5 q6
                  go_wp2_with fail
                  go_ret
                  exact ⟨⟨14, rfl, by simp; intro h; exact HQ.out _ h.ch⟩, BW.out.alloc (by omega) _⟩
              · have d5 : (e.st != m) = true := by simp [q5]
                have HQ := Lib.hid (HNO.out (fun h => q5 h.1))
                clear q5
                go_wp2_with fail
                go_ret
                exact ⟨⟨14, rfl, by simp; intro h; exact HQ.out _ h.ch⟩, BW.out.alloc (by omega) _⟩
            · obtain rfl : j = ents.length := by omega
              have dl : decide ((ents.length : Int) < (ents.length : Int)) = false := by simp
              rw [List.take_length] at HCH
              obtain ⟨V3, rfl⟩ : ∃ V3 : World, V3 = wr := ⟨_, rfl⟩
              have z0 : V3.cell? ⟨w.heap.size, 0, none⟩ = some (.slice A n cap) := by rw [HB.out.cell (p := ⟨w.heap.size, 0, none⟩) s0]; exact y0
              have z1 : V3.cell? ⟨w.heap.size, 1, none⟩ = some (.slice EA ents.length ecap) := by rw [HB.out.cell (p := ⟨w.heap.size, 1, none⟩) s0]; exact y1
              clear hlt
              by_cases q7 : m = (n : Int)
              · have d7 : (m != (n : Int)) = false := by simp [q7]
                have HC2 := Lib.hid (show Chain 0 ents n by rw [← q7]; exact HCH.out)
                clear q7 HCH
                go_upto_region 27 with fail
                go_loopw [12, 13, 14, 93] (fun a12 a13 a14 a93 wr => ∃ j : Nat, j ≤ ents.length ∧ a93 = .int .i64 (j : Int) ∧ (∀ e ∈ ents.take j, ∀ k : Nat, e.st ≤ k → (k : Int) < e.en → OkIns cd lk e.st e.en k) ∧ Below V0.heap.size V0 wr) (fun _ _ _ a93 _ => ents.length - (intOf a93).toNat)
                case atStart => exact ⟨0, Nat.zero_le _, rfl, by simp, HB.out⟩
                case round =>
                  obtain ⟨j, hj, rfl, hins, hb⟩ := hrel
                  have HIN := Lib.hid hins
                  clear HB BW z0 z1 d7
                  have HB := Lib.hid hb
                  have BW := Lib.hid (B0.out.trans (hb.mono (by omega)))
                  have s1 := hb.size
                  clear hins hb dl
                  by_cases hlt : j < ents.length
                  · obtain ⟨e, b, off, he, rfl, hbl, c0, c1, c2, c3⟩ := HEH.out.cells BW.out hlt
                    have HTK := Lib.hid (take_snoc he)
                    have HEM := Lib.hid (List.mem_of_getElem? he)
                    obtain ⟨g1, g2, g3⟩ := HC2.out.bounds e HEM.out
                    have dl : decide ((j : Int) < (ents.length : Int)) = true := by simpa using hlt
                    clear he
                    go_upto_region 30 with fail
                    obtain ⟨X, hX⟩ : ∃ X, wr.alloc (.cells #[.string e.nm, .int .i64 e.st, .int .i64 e.en, .int .i64 e.da] 39) = X := ⟨_, rfl⟩
                    have bX : Below V0.heap.size V0 X := hX ▸ HB.out.alloc (by omega) _
                    have kX : X.heap[wr.heap.size]? = some (.cells #[.string e.nm, .int .i64 e.st, .int .i64 e.en, .int .i64 e.da] 39) := hX ▸ heap_alloc_new _ _
                    have sX : wr.heap.size < X.heap.size := by rw [← hX]; simp
                    rw [hX]
                    have BX := Lib.hid bX
                    have KX := Lib.hid kX
                    obtain ⟨q, hq⟩ : ∃ q, wr.heap.size = q := ⟨_, rfl⟩
                    rw [hq] at KX sX s1 ⊢
                    clear hX bX kX HB BW c0 c1 c2 c3 hq dl
                    obtain ⟨p0, hp0⟩ : ∃ p0 : Nat, e.st = (p0 : Int) := ⟨e.st.toNat, by omega⟩
                    have HP0 := Lib.hid hp0
                    clear hp0
                    obtain ⟨wo, rfl⟩ : ∃ wo : World, wo = wr := ⟨_, rfl⟩
                    go_loopw [13, 14] (fun a13 a14 wr => ∃ p : Nat, a13 = .int .i64 (p : Int) ∧ e.st ≤ (p : Int) ∧ (p : Int) ≤ e.en ∧ (∀ k : Nat, e.st ≤ k → k < p → OkIns cd lk e.st e.en k) ∧ Below X.heap.size X wr) (fun a13 _ _ => (e.en - intOf a13).toNat)
                    case atStart => exact ⟨p0, by rw [HP0.out], by have := HP0.out; omega, by have := HP0.out; omega, fun k h1 h2 => by have := HP0.out; omega, Below.refl _ _⟩
                    case round =>
                      obtain ⟨p, rfl, hp1, hp2, hok, hb⟩ := hrel
                      have HOK := Lib.hid hok
                      have HBX := Lib.hid hb
                      have HBV := Lib.hid (BX.out.trans (hb.mono (by omega)))
                      have BW := Lib.hid (B0.out.trans (HBV.out.mono (by omega)))
                      have s2 := hb.size
                      have v0 : wr.cell? ⟨q, 0, none⟩ = some (.string e.nm) := by rw [hb.cell (p := ⟨q, 0, none⟩) sX]; simp [World.cell?, KX.out]
                      have v1 : wr.cell? ⟨q, 1, none⟩ = some (.int .i64 e.st) := by rw [hb.cell (p := ⟨q, 1, none⟩) sX]; simp [World.cell?, KX.out]
                      have v2 : wr.cell? ⟨q, 2, none⟩ = some (.int .i64 e.en) := by rw [hb.cell (p := ⟨q, 2, none⟩) sX]; simp [World.cell?, KX.out]
                      have v3 : wr.cell? ⟨q, 3, none⟩ = some (.int .i64 e.da) := by rw [hb.cell (p := ⟨q, 3, none⟩) sX]; simp [World.cell?, KX.out]
                      have z0 : wr.cell? ⟨w.heap.size, 0, none⟩ = some (.slice A n cap) := by rw [HBV.out.cell (p := ⟨w.heap.size, 0, none⟩) s0]; exact y0
                      have z1 : wr.cell? ⟨w.heap.size, 1, none⟩ = some (.slice (some ⟨b, off, none⟩) ents.length ecap) := by rw [HBV.out.cell (p := ⟨w.heap.size, 1, none⟩) s0]; exact y1
                      have z2 : wr.cell? ⟨w.heap.size, 2, none⟩ = some (.int .i64 sh) := by rw [HBV.out.cell (p := ⟨w.heap.size, 2, none⟩) s0]; exact y2
                      have z3 : wr.cell? ⟨w.heap.size, 3, none⟩ = some (.int .i64 lk) := by rw [HBV.out.cell (p := ⟨w.heap.size, 3, none⟩) s0]; exact y3
                      clear hok hb
                      by_cases hpe : (p : Int) < e.en
                      · have dp : decide ((p : Int) < e.en) = true := decide_eq_true hpe
                        have HCI := Lib.hid (checkInstr_any (.slice A n cap) (.slice (some ⟨b, off, none⟩) ents.length ecap) sh lk e.nm e.st e.en e.da n cd p (by omega) wr (HT.out.below BW.out) (HWH.out.below BW.out))
                        go_wp2_with (go_at_call 42; refine HCI.out.mono ?_; rintro e' W5 ⟨⟨r, rfl, hr⟩, hb5⟩)
                        · rename_i hne
                          have hr0 : ¬ (r = 0) := by simpa using hne
                          go_ret
                          exact ⟨⟨r, rfl, by simp only [hr0, false_iff]; intro h; exact hr0 (hr.2 (h.ins e HEM.out p (by omega) hpe))⟩, BW.out.trans (hb5.mono (by have := BW.out.size; omega))⟩
                        · rename_i hne
                          have hr0 : r = 0 := by simpa using hne
                          go_roundw
                          case rel =>
                            refine ⟨p + 1, by go_num, by omega, by omega, fun k h1 h2 => ?_, HBX.out.trans (hb5.mono (by omega))⟩
                            by_cases hkp : k = p
                            · rw [hkp]; exact hr.1 hr0
                            · exact HOK.out k h1 (by omega)
                          case measure => simp [intOf]; omega
                      · have dp : decide ((p : Int) < e.en) = false := decide_eq_false hpe
                        go_wp2_with fail
                        go_roundw
                        case rel =>
                          refine ⟨j + 1, by omega, by go_num, fun x hx k h1 h2 => ?_, HBV.out⟩
                          rw [HTK.out] at hx
                          rcases List.mem_append.1 hx with h | h
                          · exact HIN.out x h k h1 h2
                          · simp at h
                            subst h
                            exact HOK.out k h1 (by omega)
                        case measure => simp [intOf]; omega
                  · obtain rfl : j = ents.length := by omega
                    have dl : decide ((ents.length : Int) < (ents.length : Int)) = false := by simp
                    rw [List.take_length] at HIN
                    go_wp2_with fail
                    go_ret
                    exact ⟨⟨0, rfl, by simp; exact ⟨q1, q2, q3, q4, HDA.out, HNM.out, HC2.out, HIN.out⟩⟩, BW.out⟩
              · have d7 : (m != (n : Int)) = true := by simp [q7]
                go_wp2_with fail
                go_ret
                exact ⟨⟨14, rfl, by simp; intro h; exact q7 (Chain.det HCH.out h.ch)⟩, BW.out⟩

end Go.Proofs.YtfceodpdipniaaaDoor
