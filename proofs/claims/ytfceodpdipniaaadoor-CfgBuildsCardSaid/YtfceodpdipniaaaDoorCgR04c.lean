/-
  What is proved here: what ontimeref04's Decode returns: what isa's does.
-/
import Derived.Test.YtfceodpdipniaaaDoorCgR04b
import Derived.Test.YtfceodpdipniaaaDoorCgReach
namespace Go.Proofs.YtfceodpdipniaaaDoor
open Go.RowKit
set_option linter.unusedVariables false
set_option linter.unusedSimpArgs false

theorem Good.num_div {i : Ins} {k : Nat} (h : Good i k) : numI i / 67108864 = (k : Int) := by
  have hk := h.lt
  have hi := imm_in _ hk
  have ha := h.a
  have hb := h.b
  have hc := h.c
  have hm := h.imm
  have hz := imm_non _ hk
  have hop := h.op
  unfold numI
  cases hs : shpOf k <;> rw [hs] at ha hb hc hz <;> simp only [Shp.aHi, Shp.bHi, Shp.cHi, Shp.ops, true_or, or_true, forall_const] at ha hb hc hz <;> split <;> omega
theorem decI_ref {x : Int} {k : Nat} (h0 : 0 ≤ x) (hk : x / 67108864 = (k : Int)) : decI x = if validI (ref4 x k) = true ∧ numI (ref4 x k) = x then (ref4 x k, 0) else (⟨0, 0, 0, 0, 0⟩, 3) := by
  by_cases h : validI (ref4 x k) = true ∧ numI (ref4 x k) = x
  · rw [if_pos h]
    obtain ⟨k', hg⟩ := (validI_iff (by show 0 ≤ (k : Int); omega)).1 h.1
    have := hg.dec
    rw [h.2] at this
    exact this
  · rw [if_neg h]
    by_cases h2 : (decI x).2 = 0
    · obtain ⟨k', hg, hn⟩ := decI_good h0 h2
      have h3 := hg.num_div
      rw [hn] at h3
      have hkk : k' = k := by omega
      subst hkk
      have h4 := ref4_num hg
      rw [hn] at h4
      rw [h4] at h
      exact absurd ⟨(validI_iff (by have := hg.op; omega)).2 ⟨_, hg⟩, hn⟩ h
    · unfold decI at h2 ⊢
      by_cases h5 : x / 67108864 < 30 ∧ encI (decOf x) = (x, 0)
      · rw [if_pos h5] at h2
        exact absurd rfl h2
      · rw [if_neg h5]

theorem lt_of_blk {w : World} {b : Nat} {o : Obj} (h : w.heap[b]? = some o) : b < w.heap.size := (Array.getElem?_eq_some_iff.1 h).1

set_option maxHeartbeats 4000000 in
theorem decode4_any (x : Int) (hx0 : 0 ≤ x) (hx1 : x < 4294967296) (w : World) :
    Calls Tryd.prog 43 #[.int .u32 x] w fun e w' => e = .returned (.tuple #[(decI x).1.val, .bool (decide ((decI x).2 = 0))]) ∧ Below w.heap.size w w' := by
  obtain ⟨q, hq⟩ : ∃ q, x / 67108864 = q := ⟨_, rfl⟩
  have td : ∀ m : Int, 0 < m → m ≤ 4294967296 → x.tdiv m % 4294967296 = x / m := fun m h1 h2 => by
    rw [Int.tdiv_eq_ediv_of_nonneg hx0]
    exact Int.emod_eq_of_lt (Int.ediv_nonneg hx0 (by omega)) (Int.lt_of_le_of_lt (Int.ediv_le_self m hx0) hx1)
  have td0 : x.tdiv 67108864 % 4294967296 = q := by rw [td _ (by decide) (by decide), hq]
  by_cases hqk : q < 30
  case neg =>
    have HD := Lib.hid (show decI x = (⟨0, 0, 0, 0, 0⟩, 3) by unfold decI; simp [hq, hqk])
    have d : decide (30 ≤ q) = true := by simp; omega
    go_enter Tryd.func43, Tryd.ntmps43
    go_wp2_with fail
    refine bodyPost_ret (v := .tuple #[.agg #[.int .u8 0, .int .i64 0, .int .i64 0, .int .i64 0, .int .i64 0], .bool false]) (by simp [results, Tryd.results43, go_sem, *]) rfl ⟨?_, ?_⟩
    · rw [HD.out]; rfl
    · (repeat (first | exact Below.refl _ _ | refine Below.setCell ?_ ?_ _ | refine Below.alloc ?_ ?_ _)) <;> (first | (simp; done) | (simp; omega) | omega)
  obtain ⟨k, rfl⟩ : ∃ k : Nat, q = (k : Int) := ⟨q.toNat, by omega⟩
  have hk : k < 30 := by omega
  obtain ⟨A4, hA4⟩ : ∃ A4, x / 4194304 = A4 := ⟨_, rfl⟩
  obtain ⟨B4, hB4⟩ : ∃ B4, x / 262144 = B4 := ⟨_, rfl⟩
  obtain ⟨C4, hC4⟩ : ∃ C4, x / 16384 = C4 := ⟨_, rfl⟩
  have tda : x.tdiv 4194304 % 4294967296 = A4 := by rw [td _ (by decide) (by decide), hA4]
  have tdb : x.tdiv 262144 % 4294967296 = B4 := by rw [td _ (by decide) (by decide), hB4]
  have tdc : x.tdiv 16384 % 4294967296 = C4 := by rw [td _ (by decide) (by decide), hC4]
  have d30 : decide (30 ≤ (k : Int)) = false := by simp; omega
  have d30' : decide (30 ≤ k) = false := by simp; omega
  have HD := Lib.hid (decI_ref hx0 hq)
  have HF := Lib.hid (fun W => format_any k hk W)
  have hsz : (ByteArray.mk (fStr k).toArray).size = (fStr k).length := by simp [ByteArray.size]
  obtain ⟨fs, hfs⟩ : ∃ fs : ByteArray, (⟨(fStr k).toArray⟩ : ByteArray) = fs := ⟨_, rfl⟩
  obtain ⟨lo, hlo⟩ : ∃ lo, fLo k = lo := ⟨_, rfl⟩
  obtain ⟨hi, hhi⟩ : ∃ hi, fHi k = hi := ⟨_, rfl⟩
  unfold FmtIs at HF
  rw [hfs] at hsz
  have HF' := Lib.hid (show ∀ W, Calls Tryd.prog 59 #[.int .u8 (k : Int)] W fun e w' => e = .returned (.tuple #[.string fs, .int .i64 lo, .int .i64 hi, .bool true]) ∧ W = w' from fun W => by rw [← hfs, ← hlo, ← hhi]; exact HF.out W)
  obtain ⟨a4, ha4⟩ : ∃ a4, x / 4194304 % 16 = a4 := ⟨_, rfl⟩
  obtain ⟨b4, hb4⟩ : ∃ b4, x / 262144 % 16 = b4 := ⟨_, rfl⟩
  obtain ⟨c4, hc4⟩ : ∃ c4, x / 16384 % 16 = c4 := ⟨_, rfl⟩
  obtain ⟨m4, hm4⟩ : ∃ m4, x % 262144 = m4 := ⟨_, rfl⟩
  have tma : A4 % 16 = a4 := by omega
  have tmb : B4 % 16 = b4 := by omega
  have tmc : C4 % 16 = c4 := by omega
  have tmm : x % 262144 = m4 := by omega
  have tmn : x.tmod 262144 = m4 := by rw [Int.tmod_eq_emod_of_nonneg hx0]; omega
  obtain ⟨uB, huB⟩ : ∃ uB, decide (1 < fs.size) = uB := ⟨_, rfl⟩
  obtain ⟨uC, huC⟩ : ∃ uC, decide (2 < fs.size) = uC := ⟨_, rfl⟩
  obtain ⟨uL, huL⟩ : ∃ uL, decide (lo ≤ hi) = uL := ⟨_, rfl⟩
  obtain ⟨uM, huM⟩ : ∃ uM, decide (131071 < m4) = uM := ⟨_, rfl⟩
  have huB' : decide ((1 : Int) < (fs.size : Int)) = uB := by rw [← huB]; exact decide_eq_decide.2 (by omega)
  have huC' : decide ((2 : Int) < (fs.size : Int)) = uC := by rw [← huC]; exact decide_eq_decide.2 (by omega)
  have hr4 : ref4 x k = ⟨(k : Int), a4, if uB = true then b4 else 0, if uC = true then c4 else 0, if uL = true then (if uM = true then m4 - 262144 else m4) else 0⟩ := by
    unfold ref4
    rw [ha4, hb4, hc4, hm4, hlo, hhi, ← hsz, ← huB, ← huC, ← huL, ← huM]
    simp only [decide_eq_true_eq]
  rw [hr4] at HD
  have HV := Lib.hid (fun W : World => valid4_any ⟨(k : Int), a4, if uB = true then b4 else 0, if uC = true then c4 else 0, if uL = true then (if uM = true then m4 - 262144 else m4) else 0⟩ (by show 0 ≤ (k : Int); omega) W)
  have HE := Lib.hid (show validI ⟨(k : Int), a4, if uB = true then b4 else 0, if uC = true then c4 else 0, if uL = true then (if uM = true then m4 - 262144 else m4) else 0⟩ = true → ∀ W : World, _ from fun h W => by
    have hg := (validI_iff (by show 0 ≤ (k : Int); omega)).1 h
    exact (encode4_any _ hg.choose hg.choose_spec W))
  simp only at HV HE
  obtain ⟨i4, hi4⟩ : ∃ i4 : Ins, (⟨(k : Int), a4, if uB = true then b4 else 0, if uC = true then c4 else 0, if uL = true then (if uM = true then m4 - 262144 else m4) else 0⟩ : Ins) = i4 := ⟨_, rfl⟩
  rw [hi4] at HD HV HE
  obtain ⟨vi, hvi⟩ : ∃ vi, validI i4 = vi := ⟨_, rfl⟩
  obtain ⟨N, hN⟩ : ∃ N, numI i4 = N := ⟨_, rfl⟩
  rw [hvi, hN] at HD
  rw [hvi] at HV
  rw [hvi, hN] at HE
  have HI4 := Lib.hid hi4
  have wk : (k : Int) % 256 = (k : Int) := by omega
  have wa : wrap64 a4 = a4 := IntWalk.wrap64_in _ (by omega)
  have wb : wrap64 b4 = b4 := IntWalk.wrap64_in _ (by omega)
  have wc_ : wrap64 c4 = c4 := IntWalk.wrap64_in _ (by omega)
  have wm : wrap64 m4 = m4 := IntWalk.wrap64_in _ (by omega)
  have wm3 : wrap64 (m4 - 262144) = m4 - 262144 := IntWalk.wrap64_in _ (by omega)
  have wm2 : IntKind.i64.wrap (m4 - 262144) = m4 - 262144 := IntWalk.i64_in _ (by omega)
  clear hfs hsz hlo hhi HF hi4 hr4 hvi hN hx0 hx1 hqk hk td hA4 hB4 hC4 ha4 hb4 hc4 hm4 hq
  go_enter Tryd.func43, Tryd.ntmps43
  go_upto_region 6 with (go_at_call 59; refine (HF'.out _).mono ?_; rintro e w' ⟨rfl, rfl⟩)
  obtain ⟨X, hX⟩ : ∃ X, (w.alloc (.cells #[.int .u8 0, .int .i64 0, .int .i64 0, .int .i64 0, .int .i64 0] 53)).alloc (.cells #[.int .u8 (k : Int), .int .i64 a4, .int .i64 0, .int .i64 0, .int .i64 0] 53) = X := ⟨_, rfl⟩
  have kX : X.heap[w.heap.size + 1]? = some (.cells #[.int .u8 (k : Int), .int .i64 a4, .int .i64 0, .int .i64 0, .int .i64 0] 53) := by rw [← hX]; exact heap_alloc_at _ _ (by simp)
  have kR : X.heap[w.heap.size]? = some (.cells #[.int .u8 0, .int .i64 0, .int .i64 0, .int .i64 0, .int .i64 0] 53) := by rw [← hX, heap_alloc_old _ _ (by simp)]; exact heap_alloc_new _ _
  have bX : Below w.heap.size w X := hX ▸ ((Below.refl _ _).alloc (Nat.le_refl _) _).alloc (by simp) _
  have sX : w.heap.size + 2 = X.heap.size := by rw [← hX]; simp
  rw [hX]
  clear hX
  obtain ⟨b', hb'⟩ : ∃ b', (if uB = true then b4 else 0) = b' := ⟨_, rfl⟩
  obtain ⟨c', hc'⟩ : ∃ c', (if uC = true then c4 else 0) = c' := ⟨_, rfl⟩
  obtain ⟨m', hm'⟩ : ∃ m', (if uL = true then (if uM = true then m4 - 262144 else m4) else 0) = m' := ⟨_, rfl⟩
  rw [hb', hc', hm'] at HV HE HI4
  have HBB := Lib.hid hb'
  have HCC := Lib.hid hc'
  have HMM := Lib.hid hm'
  have hwl : w.heap.size + 1 < X.heap.size := by omega
  clear hb' hc' hm' sX
  have K1 := Lib.hid kX
  have KR := Lib.hid kR
  have BX := Lib.hid bX
  go_upto_if 32 with fail
  go_cut [5] from 26 to 37 (fun a5 wx => a5 = .string fs ∧ wx.heap[w.heap.size + 1]? = some (.cells #[.int .u8 (k : Int), .int .i64 a4, .int .i64 b', .int .i64 0, .int .i64 0] 53) ∧ wx.heap[w.heap.size]? = some (.cells #[.int .u8 0, .int .i64 0, .int .i64 0, .int .i64 0, .int .i64 0] 53) ∧ Below w.heap.size w wx)
  case first =>
    clear HV HE HD HI4 HF' tda tma td0
    have o0 : X.cell? ⟨w.heap.size + 1, 0, none⟩ = some (.int .u8 (k : Int)) := by simp [World.cell?, kX]
    have o2 : X.cell? ⟨w.heap.size + 1, 2, none⟩ = some (.int .i64 0) := by simp [World.cell?, kX]
    have o3 : X.cell? ⟨w.heap.size + 1, 3, none⟩ = some (.int .i64 0) := by simp [World.cell?, kX]
    have o4 : X.cell? ⟨w.heap.size + 1, 4, none⟩ = some (.int .i64 0) := by simp [World.cell?, kX]
    have f2 : X.frozen? ⟨w.heap.size + 1, 2, none⟩ = false := by simp [World.frozen?, kX]
    have f3 : X.frozen? ⟨w.heap.size + 1, 3, none⟩ = false := by simp [World.frozen?, kX]
    have f4 : X.frozen? ⟨w.heap.size + 1, 4, none⟩ = false := by simp [World.frozen?, kX]
    clear kX kR bX
    cases uB
    all_goals
      go_wp2_with fail
      go_meet
      case rel =>
        refine ⟨rfl, ?_, ?_, ?_⟩
        · rw [← HBB.out]
          first
            | exact K1.out
            | exact heap_setCell_same _ _ _ _ _ _ K1.out
            | exact heap_setCell_same _ _ _ _ _ _ (heap_setCell_same _ _ _ _ _ _ K1.out)
        · repeat rw [Below.heap_setCell _ _ _ _ (by show w.heap.size ≠ w.heap.size + 1; omega)]
          exact KR.out
        · (repeat (first | exact BX.out | refine Below.setCell ?_ ?_ _)) <;> (show w.heap.size ≤ w.heap.size + 1; omega)
  case rest =>
    obtain ⟨rfl, kI, kR, bc⟩ := hcut
    obtain ⟨W1, hW1⟩ : ∃ W1 : World, W1 = wc := ⟨_, rfl⟩
    subst hW1
    clear K1 KR BX kX bX
    have K1 := Lib.hid kI
    have KR := Lib.hid kR
    have BX := Lib.hid bc
    go_upto_if 40 with fail
    go_cut [5] from 38 to 45 (fun a5 wx => a5 = .string fs ∧ wx.heap[w.heap.size + 1]? = some (.cells #[.int .u8 (k : Int), .int .i64 a4, .int .i64 b', .int .i64 c', .int .i64 0] 53) ∧ wx.heap[w.heap.size]? = some (.cells #[.int .u8 0, .int .i64 0, .int .i64 0, .int .i64 0, .int .i64 0] 53) ∧ Below w.heap.size w wx)
    case first =>
      clear HV HE HD HI4 HF' tda tma td0
      have o0 : W1.cell? ⟨w.heap.size + 1, 0, none⟩ = some (.int .u8 (k : Int)) := by simp [World.cell?, kI]
      have o2 : W1.cell? ⟨w.heap.size + 1, 2, none⟩ = some (.int .i64 b') := by simp [World.cell?, kI]
      have o3 : W1.cell? ⟨w.heap.size + 1, 3, none⟩ = some (.int .i64 0) := by simp [World.cell?, kI]
      have o4 : W1.cell? ⟨w.heap.size + 1, 4, none⟩ = some (.int .i64 0) := by simp [World.cell?, kI]
      have f2 : W1.frozen? ⟨w.heap.size + 1, 2, none⟩ = false := by simp [World.frozen?, kI]
      have f3 : W1.frozen? ⟨w.heap.size + 1, 3, none⟩ = false := by simp [World.frozen?, kI]
      have f4 : W1.frozen? ⟨w.heap.size + 1, 4, none⟩ = false := by simp [World.frozen?, kI]
      have hwl : w.heap.size + 1 < W1.heap.size := lt_of_blk kI
      clear kI kR bc
      cases uC
      all_goals
        go_wp2_with fail
        go_meet
        case rel =>
          refine ⟨rfl, ?_, ?_, ?_⟩
          · rw [← HCC.out]
            first
              | exact K1.out
              | exact heap_setCell_same _ _ _ _ _ _ K1.out
              | exact heap_setCell_same _ _ _ _ _ _ (heap_setCell_same _ _ _ _ _ _ K1.out)
          · repeat rw [Below.heap_setCell _ _ _ _ (by show w.heap.size ≠ w.heap.size + 1; omega)]
            exact KR.out
          · (repeat (first | exact BX.out | refine Below.setCell ?_ ?_ _)) <;> (show w.heap.size ≤ w.heap.size + 1; omega)
    case rest =>
      obtain ⟨rfl, kI, kR, bc⟩ := hcut
      obtain ⟨W2, hW2⟩ : ∃ W2 : World, W2 = wc := ⟨_, rfl⟩
      subst hW2
      clear K1 KR BX
      have K1 := Lib.hid kI
      have KR := Lib.hid kR
      have BX := Lib.hid bc
      go_upto_if 48 with fail
      go_cut [5] from 46 to 59 (fun a5 wx => a5 = .string fs ∧ wx.heap[w.heap.size + 1]? = some (.cells #[.int .u8 (k : Int), .int .i64 a4, .int .i64 b', .int .i64 c', .int .i64 m'] 53) ∧ wx.heap[w.heap.size]? = some (.cells #[.int .u8 0, .int .i64 0, .int .i64 0, .int .i64 0, .int .i64 0] 53) ∧ Below w.heap.size w wx)
      case first =>
        clear HV HE HD HI4 HF' tda tma td0
        have o0 : W2.cell? ⟨w.heap.size + 1, 0, none⟩ = some (.int .u8 (k : Int)) := by simp [World.cell?, kI]
        have o2 : W2.cell? ⟨w.heap.size + 1, 2, none⟩ = some (.int .i64 b') := by simp [World.cell?, kI]
        have o3 : W2.cell? ⟨w.heap.size + 1, 3, none⟩ = some (.int .i64 c') := by simp [World.cell?, kI]
        have o4 : W2.cell? ⟨w.heap.size + 1, 4, none⟩ = some (.int .i64 0) := by simp [World.cell?, kI]
        have f2 : W2.frozen? ⟨w.heap.size + 1, 2, none⟩ = false := by simp [World.frozen?, kI]
        have f3 : W2.frozen? ⟨w.heap.size + 1, 3, none⟩ = false := by simp [World.frozen?, kI]
        have f4 : W2.frozen? ⟨w.heap.size + 1, 4, none⟩ = false := by simp [World.frozen?, kI]
        have hwl : w.heap.size + 1 < W2.heap.size := lt_of_blk kI
        clear kI kR bc
        cases uL <;> cases uM
        all_goals
          go_wp2_with fail
          go_meet
          case rel =>
            refine ⟨rfl, ?_, ?_, ?_⟩
            · rw [← HMM.out]
              first
                | exact K1.out
                | exact heap_setCell_same _ _ _ _ _ _ K1.out
                | exact heap_setCell_same _ _ _ _ _ _ (heap_setCell_same _ _ _ _ _ _ K1.out)
            · repeat rw [Below.heap_setCell _ _ _ _ (by show w.heap.size ≠ w.heap.size + 1; omega)]
              exact KR.out
            · (repeat (first | exact BX.out | refine Below.setCell ?_ ?_ _)) <;> (show w.heap.size ≤ w.heap.size + 1; omega)
      case rest =>
        obtain ⟨rfl, kI, kR', bc⟩ := hcut
        have BC := Lib.hid bc
        have KR' := Lib.hid kR'
        have bcs := bc.size
        have hlt : w.heap.size < wc.heap.size := lt_of_blk kR'
        have o0 : wc.cell? ⟨w.heap.size + 1, 0, none⟩ = some (.int .u8 (k : Int)) := by simp [World.cell?, kI]
        have o1 : wc.cell? ⟨w.heap.size + 1, 1, none⟩ = some (.int .i64 a4) := by simp [World.cell?, kI]
        have o2 : wc.cell? ⟨w.heap.size + 1, 2, none⟩ = some (.int .i64 b') := by simp [World.cell?, kI]
        have o3 : wc.cell? ⟨w.heap.size + 1, 3, none⟩ = some (.int .i64 c') := by simp [World.cell?, kI]
        have o4 : wc.cell? ⟨w.heap.size + 1, 4, none⟩ = some (.int .i64 m') := by simp [World.cell?, kI]
        have hl1 : w.heap.size + 1 < wc.heap.size := lt_of_blk kI
        have r0 : wc.cell? ⟨w.heap.size, 0, none⟩ = some (.int .u8 0) := by simp [World.cell?, kR']
        have r1 : wc.cell? ⟨w.heap.size, 1, none⟩ = some (.int .i64 0) := by simp [World.cell?, kR']
        have r2 : wc.cell? ⟨w.heap.size, 2, none⟩ = some (.int .i64 0) := by simp [World.cell?, kR']
        have r3 : wc.cell? ⟨w.heap.size, 3, none⟩ = some (.int .i64 0) := by simp [World.cell?, kR']
        have r4 : wc.cell? ⟨w.heap.size, 4, none⟩ = some (.int .i64 0) := by simp [World.cell?, kR']
        have f0 : wc.frozen? ⟨w.heap.size, 0, none⟩ = false := by simp [World.frozen?, kR']
        have f1 : wc.frozen? ⟨w.heap.size, 1, none⟩ = false := by simp [World.frozen?, kR']
        have f2 : wc.frozen? ⟨w.heap.size, 2, none⟩ = false := by simp [World.frozen?, kR']
        have f3 : wc.frozen? ⟨w.heap.size, 3, none⟩ = false := by simp [World.frozen?, kR']
        have f4 : wc.frozen? ⟨w.heap.size, 4, none⟩ = false := by simp [World.frozen?, kR']
        have HV' := Lib.hid (show Calls Tryd.prog 60 #[.agg #[.int .u8 (k : Int), .int .i64 a4, .int .i64 b', .int .i64 c', .int .i64 m']] wc fun e w' => e = .returned (.bool vi) ∧ ∃ y : Ext wc, y.w = w' from (HV.out wc).mono fun e w' ⟨h1, h2⟩ => ⟨h1, ⟨w', h2⟩, rfl⟩)
        have HE' := Lib.hid (show vi = true → ∀ y : Ext wc, Calls Tryd.prog 61 #[.agg #[.int .u8 (k : Int), .int .i64 a4, .int .i64 b', .int .i64 c', .int .i64 m']] y.w fun e w' => e = .returned (.int .u32 N) ∧ ∃ z : Ext wc, z.w = w' from fun h y => (HE.out h y.w).mono fun e w' ⟨h1, h2⟩ => ⟨h1, ⟨w', y.h.trans (h2.mono y.h.size)⟩, rfl⟩)
        clear kI kR' bc HV HE K1 KR BX HF' d30 d30' td0 tda tdb tdc tma tmb tmc tmm tmn wm3 wk wa wb wc_ wm wm2 huB huC huL huM huB' huC' KR' kR HBB HCC HMM hwl
        cases vi with
        | false =>
          have HDD := Lib.hid (show decI x = (⟨0, 0, 0, 0, 0⟩, 3) by rw [HD.out, if_neg (by simp)])
          go_wp2_with (go_at_call 60; refine HV'.out.mono ?_; rintro e w' ⟨rfl, y, rfl⟩)
          refine bodyPost_ret (v := .tuple #[.agg #[.int .u8 0, .int .i64 0, .int .i64 0, .int .i64 0, .int .i64 0], .bool false]) (by simp [results, Tryd.results43, go_sem, *]) rfl ⟨?_, ?_⟩
          · rw [HDD.out]; rfl
          · (repeat (first | exact Ext.below BC.out bcs y | refine Below.setCell ?_ ?_ _)) <;> exact Nat.le_refl _
        | true =>
          have HE2 := Lib.hid (HE'.out rfl)
          by_cases hN : N = x
          · have d : (N != x) = false := by simp [hN]
            have HDD := Lib.hid (show decI x = (⟨(k : Int), a4, b', c', m'⟩, 0) by rw [HD.out, if_pos ⟨rfl, hN⟩, ← HI4.out])
            clear hN
            go_wp2_with (first | (go_at_call 60; refine HV'.out.mono ?_; rintro e w' ⟨rfl, y, rfl⟩) | (go_at_call 61; refine (HE2.out _).mono ?_; rintro e w' ⟨rfl, z, rfl⟩))
            refine bodyPost_ret (v := .tuple #[.agg #[.int .u8 (k : Int), .int .i64 a4, .int .i64 b', .int .i64 c', .int .i64 m'], .bool true]) (by simp [results, Tryd.results43, go_sem, *]) rfl ⟨?_, ?_⟩
            · rw [HDD.out]; rfl
            · (repeat (first | exact Ext.below BC.out bcs z | refine Below.setCell ?_ ?_ _)) <;> exact Nat.le_refl _
          · have d : (N != x) = true := by simp [hN]
            have HDD := Lib.hid (show decI x = (⟨0, 0, 0, 0, 0⟩, 3) by rw [HD.out, if_neg (fun h => hN h.2)])
            clear hN
            go_wp2_with (first | (go_at_call 60; refine HV'.out.mono ?_; rintro e w' ⟨rfl, y, rfl⟩) | (go_at_call 61; refine (HE2.out _).mono ?_; rintro e w' ⟨rfl, z, rfl⟩))
            refine bodyPost_ret (v := .tuple #[.agg #[.int .u8 0, .int .i64 0, .int .i64 0, .int .i64 0, .int .i64 0], .bool false]) (by simp [results, Tryd.results43, go_sem, *]) rfl ⟨?_, ?_⟩
            · rw [HDD.out]; rfl
            · (repeat (first | exact Ext.below BC.out bcs z | refine Below.setCell ?_ ?_ _)) <;> exact Nat.le_refl _

end Go.Proofs.YtfceodpdipniaaaDoor
