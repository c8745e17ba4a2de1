/-
  What is proved here: what the reference of words (ontimeref03) returns: the values of word.Apply.
-/
import Derived.Test.YtjkjcnamlankoaaIvSoundPlain
namespace Go.Proofs.Ytjkjcnamlankoaa
open Go.RowKit
set_option linter.unusedVariables false
set_option linter.unusedSimpArgs false

set_option maxHeartbeats 400000 in
theorem rtruth_any (b : Bool) (w : World) : Calls Try.prog 58 #[.bool b] w fun e w' => e = .returned (.int .i32 (b2i b)) ∧ w = w' := by
  cases b
  all_goals
    go_enter Try.func58, Try.ntmps58
    go_wp2
    go_ret
    exact ⟨rfl, rfl⟩

theorem tmod_forms (n : Int) : (0 ≤ n ∧ n.tmod 4294967296 = n % 4294967296) ∨ (n < 0 ∧ n.tmod 4294967296 = -((-n) % 4294967296)) := by
  by_cases h : 0 ≤ n
  · exact .inl ⟨h, Int.tmod_eq_emod_of_nonneg h⟩
  · right
    refine ⟨by omega, ?_⟩
    have := Int.neg_tmod (-n) 4294967296
    rw [Int.neg_neg] at this
    rw [this, Int.tmod_eq_emod_of_nonneg (by omega)]

set_option maxHeartbeats 400000 in
theorem rwrap_any (n : Int) (w : World) (h1 : -9223372036854775808 ≤ n) (h2 : n ≤ 9223372036854775807) : Calls Try.prog 54 #[.int .i64 n] w fun e w' => e = .returned (.int .i32 (wrap32 n)) ∧ w = w' := by
  have HF := Lib.hid (tmod_forms n)
  have b1 : -4294967296 < n.tmod 4294967296 ∧ n.tmod 4294967296 < 4294967296 := by rcases tmod_forms n with h | h <;> omega
  obtain ⟨b1, b2⟩ := b1
  obtain ⟨r, hr⟩ : ∃ r, n.tmod 4294967296 = r := ⟨_, rfl⟩
  have HR := Lib.hid hr
  go_enter Try.func54, Try.ntmps54
  go_wp2
  all_goals
    go_ret
    refine ⟨ret_int ?_, rfl⟩
    have hf := HF.out
    unfold wrap32
    omega

/-- A word as 32 bits. -/
def u32I (x : Int) : Int := if x < 0 then x + 4294967296 else x
theorem u32I_bd {x : Int} (h : W32 x) : 0 ≤ u32I x ∧ u32I x < 4294967296 := by unfold W32 at h; unfold u32I; split <;> omega
theorem div_pow_bd {u : Int} (h0 : 0 ≤ u) (h1 : u < 4294967296) (k : Nat) : 0 ≤ u / 2 ^ k ∧ u / 2 ^ k < 4294967296 := by
  have := (shr_bd u k).1 h0
  omega
theorem div_pow_succ (u : Int) (k : Nat) : u / 2 ^ k / 2 = u / 2 ^ (k + 1) := by
  rw [Int.pow_succ, Int.ediv_ediv_of_nonneg]
  have := pow_pos' k
  omega

set_option maxHeartbeats 400000 in
theorem rbit_any (x i : Int) (w : World) (hx : W32 x) (h0 : 0 ≤ i) (h1 : i ≤ 31) : Calls Try.prog 64 #[.int .i32 x, .int .i64 i] w fun e w' => e = .returned (.int .i64 (u32I x / 2 ^ i.toNat % 2)) ∧ w = w' := by
  have hu := u32I_bd hx
  have HU := Lib.hid (fun k => div_pow_bd hu.1 hu.2 k)
  have HS := Lib.hid (fun k => div_pow_succ (u32I x) k)
  obtain ⟨hx1, hx2⟩ := hx
  by_cases hn : x < 0
  all_goals
    have hz : u32I x / 2 ^ 0 = u32I x := by simp
    have he : u32I x = if x < 0 then x + 4294967296 else x := rfl
    (first | rw [if_pos hn] at he | rw [if_neg hn] at he)
    have HZ := Lib.hid (hz.trans he)
    clear hz he hu
    go_enter Try.func64, Try.ntmps64
    go_wp2
    go_loop [1, 5] (fun i' n' => ∃ k : Nat, k ≤ i.toNat ∧ i' = .int .i64 (i - k) ∧ n' = .int .i64 (u32I x / 2 ^ k)) (fun i' _ => (intOf i').toNat)
    case atStart => exact ⟨0, by omega, int_eq (by omega), int_eq HZ.out.symm⟩
    case round =>
      obtain ⟨k, hk, rfl, rfl⟩ := hrel
      obtain ⟨hu1, hu2⟩ := HU.out k
      have hs := Lib.hid (HS.out k)
      by_cases hlt : k < i.toNat
      · have hlt' : 0 < i - (k : Int) := by omega
        obtain ⟨q, hq⟩ : ∃ q, u32I x / 2 ^ k = q := ⟨_, rfl⟩
        rw [hq] at hu1 hu2 hs ⊢
        clear hq
        go_wp2
        go_round
        case rel => exact ⟨k + 1, by omega, int_eq (by omega), int_eq hs.out⟩
        case measure => simp [intOf]; omega
      · have hge : ¬ 0 < i - (k : Int) := by omega
        obtain rfl : k = i.toNat := by omega
        obtain ⟨q, hq⟩ : ∃ q, u32I x / 2 ^ i.toNat = q := ⟨_, rfl⟩
        rw [hq] at hu1 hu2 ⊢
        have HQ := Lib.hid hq
        clear hq
        go_wp2
        go_ret
        exact ⟨ret_int (by rw [HQ.out]), rfl⟩

theorem bit_step (T k : Nat) : T % 2 ^ (k + 1) = T % 2 ^ k + 2 ^ k * (T / 2 ^ k % 2) := Nat.mod_pow_succ
theorem bit_lt (T k : Nat) : T / 2 ^ k % 2 = 0 ∨ T / 2 ^ k % 2 = 1 := by omega
theorem tb (T k : Nat) : T.testBit k = decide (T / 2 ^ k % 2 = 1) := Nat.testBit_eq_decide_div_mod_eq
theorem bit_and (X Y k : Nat) : ((X &&& Y) / 2 ^ k % 2 = 1) ↔ (X / 2 ^ k % 2 = 1 ∧ Y / 2 ^ k % 2 = 1) := by
  have h := Nat.testBit_and X Y k
  rw [tb, tb, tb, Bool.eq_iff_iff] at h
  simpa using h
theorem bit_or (X Y k : Nat) : ((X ||| Y) / 2 ^ k % 2 = 1) ↔ (X / 2 ^ k % 2 = 1 ∨ Y / 2 ^ k % 2 = 1) := by
  have h := Nat.testBit_or X Y k
  rw [tb, tb, tb, Bool.eq_iff_iff] at h
  simpa using h
theorem bit_xor (X Y k : Nat) : ((X ^^^ Y) / 2 ^ k % 2 = 1) ↔ ¬ (X / 2 ^ k % 2 = 1 ↔ Y / 2 ^ k % 2 = 1) := by
  have h := Nat.testBit_xor X Y k
  rw [tb, tb, tb] at h
  by_cases a : X / 2 ^ k % 2 = 1 <;> by_cases b : Y / 2 ^ k % 2 = 1 <;> simp_all
/-- The operation on bit strings. -/
def bop (op : Int) (X Y : Nat) : Nat := if op = 11 then X &&& Y else if op = 12 then X ||| Y else X ^^^ Y
theorem bop_lt (op : Int) {X Y : Nat} (hx : X < 2 ^ 32) (hy : Y < 2 ^ 32) : bop op X Y < 2 ^ 32 := by
  unfold bop
  split
  · exact Nat.and_lt_two_pow _ hy
  · split
    · exact Nat.or_lt_two_pow hx hy
    · exact Nat.xor_lt_two_pow hx hy
/-- Whether a bit is added. -/
def addB (op a b : Int) : Bool := (op == 11 && a + b == 2) || (op == 12 && decide (1 ≤ a + b)) || (op == 13 && a + b == 1)
theorem bop_step (op : Int) (X Y k : Nat) (h : op = 11 ∨ op = 12 ∨ op = 13) (a b : Int) (ha : a = (X / 2 ^ k % 2 : Nat)) (hb : b = (Y / 2 ^ k % 2 : Nat)) :
    ((bop op X Y % 2 ^ (k + 1) : Nat) : Int) = (bop op X Y % 2 ^ k : Nat) + if addB op a b then (2 : Int) ^ k else 0 := by
  rw [bit_step]
  have hx := bit_lt X k
  have hy := bit_lt Y k
  have e : ((2 ^ k : Nat) : Int) = 2 ^ k := by simp
  have key : (bop op X Y / 2 ^ k % 2 = 1 ↔ addB op a b = true) → ((bop op X Y % 2 ^ k + 2 ^ k * (bop op X Y / 2 ^ k % 2) : Nat) : Int) = (bop op X Y % 2 ^ k : Nat) + if addB op a b then (2 : Int) ^ k else 0 := by
    intro hk
    by_cases c : addB op a b = true
    · rw [if_pos c, hk.2 c, Nat.mul_one, Int.natCast_add, e]
    · rw [if_neg c]
      have : bop op X Y / 2 ^ k % 2 = 0 := by
        rcases bit_lt (bop op X Y) k with h0 | h0
        · exact h0
        · exact absurd (hk.1 h0) c
      rw [this, Nat.mul_zero, Nat.add_zero, Int.add_zero]
  apply key
  rcases h with rfl | rfl | rfl
  · show ((X &&& Y) / 2 ^ k % 2 = 1) ↔ _
    rw [bit_and]
    simp [addB]
    omega
  · show ((X ||| Y) / 2 ^ k % 2 = 1) ↔ _
    rw [bit_or]
    simp [addB]
    omega
  · show ((X ^^^ Y) / 2 ^ k % 2 = 1) ↔ _
    rw [bit_xor]
    simp [addB]
    omega
theorem u32_toNat {x : Int} (h : W32 x) : u32I x = ((BitVec.ofInt 32 x).toNat : Int) := by
  rw [u32_nat x h]; unfold u32I; split <;> split <;> omega
theorem bits_bop {op : Int} (h : op = 11 ∨ op = 12 ∨ op = 13) (x y : Int) : wv op x y = wrap32 (bop op (BitVec.ofInt 32 x).toNat (BitVec.ofInt 32 y).toNat : Nat) := by
  rcases h with rfl | rfl | rfl
  · show bits .and .i32 x y = _
    rw [i32_bits]; simp only [BitVec.toNat_and]; rfl
  · show bits .or .i32 x y = _
    rw [i32_bits]; simp only [BitVec.toNat_or]; rfl
  · show bits .xor .i32 x y = _
    rw [i32_bits]; simp only [BitVec.toNat_xor]; rfl
theorem bit_val {x : Int} (h : W32 x) (k : Nat) : u32I x / 2 ^ k % 2 = (((BitVec.ofInt 32 x).toNat / 2 ^ k % 2 : Nat) : Int) := by
  rw [u32_toNat h]; simp

set_option maxHeartbeats 2000000 in
theorem rbits_11 (x y : Int) (w : World) (hx : W32 x) (hy : W32 y) : Calls Try.prog 55 #[.int .u8 11, .int .i32 x, .int .i32 y] w fun e w' => e = .returned (.int .i32 (wv 11 x y)) ∧ w = w' := by
  have EV := Lib.hid (bits_bop (op := 11) (by decide) x y)
  have VX := Lib.hid (fun k => bit_val hx k)
  have VY := Lib.hid (fun k => bit_val hy k)
  have hX : (BitVec.ofInt 32 x).toNat < 2 ^ 32 := (BitVec.ofInt 32 x).isLt
  have hY : (BitVec.ofInt 32 y).toNat < 2 ^ 32 := (BitVec.ofInt 32 y).isLt
  generalize (BitVec.ofInt 32 x).toNat = X at *
  generalize (BitVec.ofInt 32 y).toNat = Y at *
  have HS := Lib.hid (fun k a b => bop_step 11 X Y k (by decide) a b)
  have HL := Lib.hid (bop_lt 11 hX hY)
  go_enter Try.func55, Try.ntmps55
  go_wp2_with fail
  go_loop [7, 8, 9] (fun n p i => ∃ k : Nat, k ≤ 32 ∧ i = .int .i64 k ∧ p = .int .i64 (2 ^ k) ∧ n = .int .i64 (bop 11 X Y % 2 ^ k : Nat)) (fun _ _ i => 32 - (intOf i).toNat)
  case atStart => exact ⟨0, by omega, rfl, rfl, int_eq (by simp [Nat.mod_one])⟩
  case round =>
    obtain ⟨k, hk, rfl, rfl, rfl⟩ := hrel
    have hp := pow_bd k 32 hk
    have e32 : (2 : Int) ^ 32 = 4294967296 := by decide
    rw [e32] at hp
    have hb : ((bop 11 X Y % 2 ^ k : Nat) : Int) < 2 ^ k := by
      have h := Nat.mod_lt (bop 11 X Y) (show 0 < 2 ^ k from Nat.two_pow_pos k)
      have e : ((2 ^ k : Nat) : Int) = 2 ^ k := by simp
      omega
    have hb0 : 0 ≤ ((bop 11 X Y % 2 ^ k : Nat) : Int) := by omega
    obtain ⟨hp1, hp2⟩ := hp
    have P2 := Lib.hid (show (2 : Int) * 2 ^ k = 2 ^ (k + 1) by rw [Int.pow_succ]; omega)
    by_cases hlt : k < 32
    · have hlt' : (k : Int) < 32 := by omega
      have vx := Lib.hid (VX.out k)
      have vy := Lib.hid (VY.out k)
      have st := Lib.hid (HS.out k _ _ rfl rfl)
      have bx := bit_lt X k
      have b2 := bit_lt Y k
      have RX := Lib.hid (rbit_any x k · hx (by omega) (by omega))
      have RY := Lib.hid (rbit_any y k · hy (by omega) (by omega))
      rw [Int.toNat_natCast, vx.out] at RX
      rw [Int.toNat_natCast, vy.out] at RY
      clear vx vy
      generalize X / 2 ^ k % 2 = bX at *
      generalize Y / 2 ^ k % 2 = bY at *
      obtain ⟨N, hN⟩ : ∃ N, bop 11 X Y % 2 ^ k = N := ⟨_, rfl⟩
      rw [hN] at hb hb0 st ⊢
      clear hN
      obtain ⟨p, hp⟩ : ∃ p, (2 : Int) ^ k = p := ⟨_, rfl⟩
      rw [hp] at hb hp1 hp2 st P2 ⊢
      clear hp
      rcases bx with rfl | rfl <;> rcases b2 with rfl | rfl
      all_goals
        go_wp2_with fail
        refine (RX.out _).mono ?_
        rintro e w' ⟨rfl, rfl⟩
        go_wp2_with fail
        refine (RY.out _).mono ?_
        rintro e w' ⟨rfl, rfl⟩
        go_wp2
        go_round
        case rel => exact ⟨k + 1, by omega, by go_num, int_eq P2.out, int_eq (by have h := st.out; simp [addB] at h; first | omega | exact h.symm)⟩
        case measure => simp [intOf]; omega
    · have hge : ¬ (k : Int) < 32 := by omega
      obtain rfl : k = 32 := by omega
      have hm : bop 11 X Y % 2 ^ 32 = bop 11 X Y := Nat.mod_eq_of_lt HL.out
      rw [hm] at hb hb0 ⊢
      have e32' : (2 : Int) ^ 32 = 4294967296 := by decide
      rw [e32'] at hb ⊢
      clear hm e32' e32 HS P2
      obtain ⟨N, hN⟩ : ∃ N, bop 11 X Y = N := ⟨_, rfl⟩
      rw [hN] at hb hb0 EV ⊢
      clear hN HL
      go_wp2_with fail
      refine (rwrap_any _ _ (by omega) (by omega)).mono ?_
      rintro e w' ⟨rfl, rfl⟩
      go_wp2
      go_ret
      exact ⟨ret_int EV.out.symm, rfl⟩

set_option maxHeartbeats 2000000 in
theorem rbits_12 (x y : Int) (w : World) (hx : W32 x) (hy : W32 y) : Calls Try.prog 55 #[.int .u8 12, .int .i32 x, .int .i32 y] w fun e w' => e = .returned (.int .i32 (wv 12 x y)) ∧ w = w' := by
  have EV := Lib.hid (bits_bop (op := 12) (by decide) x y)
  have VX := Lib.hid (fun k => bit_val hx k)
  have VY := Lib.hid (fun k => bit_val hy k)
  have hX : (BitVec.ofInt 32 x).toNat < 2 ^ 32 := (BitVec.ofInt 32 x).isLt
  have hY : (BitVec.ofInt 32 y).toNat < 2 ^ 32 := (BitVec.ofInt 32 y).isLt
  generalize (BitVec.ofInt 32 x).toNat = X at *
  generalize (BitVec.ofInt 32 y).toNat = Y at *
  have HS := Lib.hid (fun k a b => bop_step 12 X Y k (by decide) a b)
  have HL := Lib.hid (bop_lt 12 hX hY)
  go_enter Try.func55, Try.ntmps55
  go_wp2_with fail
  go_loop [7, 8, 9] (fun n p i => ∃ k : Nat, k ≤ 32 ∧ i = .int .i64 k ∧ p = .int .i64 (2 ^ k) ∧ n = .int .i64 (bop 12 X Y % 2 ^ k : Nat)) (fun _ _ i => 32 - (intOf i).toNat)
  case atStart => exact ⟨0, by omega, rfl, rfl, int_eq (by simp [Nat.mod_one])⟩
  case round =>
    obtain ⟨k, hk, rfl, rfl, rfl⟩ := hrel
    have hp := pow_bd k 32 hk
    have e32 : (2 : Int) ^ 32 = 4294967296 := by decide
    rw [e32] at hp
    have hb : ((bop 12 X Y % 2 ^ k : Nat) : Int) < 2 ^ k := by
      have h := Nat.mod_lt (bop 12 X Y) (show 0 < 2 ^ k from Nat.two_pow_pos k)
      have e : ((2 ^ k : Nat) : Int) = 2 ^ k := by simp
      omega
    have hb0 : 0 ≤ ((bop 12 X Y % 2 ^ k : Nat) : Int) := by omega
    obtain ⟨hp1, hp2⟩ := hp
    have P2 := Lib.hid (show (2 : Int) * 2 ^ k = 2 ^ (k + 1) by rw [Int.pow_succ]; omega)
    by_cases hlt : k < 32
    · have hlt' : (k : Int) < 32 := by omega
      have vx := Lib.hid (VX.out k)
      have vy := Lib.hid (VY.out k)
      have st := Lib.hid (HS.out k _ _ rfl rfl)
      have bx := bit_lt X k
      have b2 := bit_lt Y k
      have RX := Lib.hid (rbit_any x k · hx (by omega) (by omega))
      have RY := Lib.hid (rbit_any y k · hy (by omega) (by omega))
      rw [Int.toNat_natCast, vx.out] at RX
      rw [Int.toNat_natCast, vy.out] at RY
      clear vx vy
      generalize X / 2 ^ k % 2 = bX at *
      generalize Y / 2 ^ k % 2 = bY at *
      obtain ⟨N, hN⟩ : ∃ N, bop 12 X Y % 2 ^ k = N := ⟨_, rfl⟩
      rw [hN] at hb hb0 st ⊢
      clear hN
      obtain ⟨p, hp⟩ : ∃ p, (2 : Int) ^ k = p := ⟨_, rfl⟩
      rw [hp] at hb hp1 hp2 st P2 ⊢
      clear hp
      rcases bx with rfl | rfl <;> rcases b2 with rfl | rfl
      all_goals
        go_wp2_with fail
        refine (RX.out _).mono ?_
        rintro e w' ⟨rfl, rfl⟩
        go_wp2_with fail
        refine (RY.out _).mono ?_
        rintro e w' ⟨rfl, rfl⟩
        go_wp2
        go_round
        case rel => exact ⟨k + 1, by omega, by go_num, int_eq P2.out, int_eq (by have h := st.out; simp [addB] at h; first | omega | exact h.symm)⟩
        case measure => simp [intOf]; omega
    · have hge : ¬ (k : Int) < 32 := by omega
      obtain rfl : k = 32 := by omega
      have hm : bop 12 X Y % 2 ^ 32 = bop 12 X Y := Nat.mod_eq_of_lt HL.out
      rw [hm] at hb hb0 ⊢
      have e32' : (2 : Int) ^ 32 = 4294967296 := by decide
      rw [e32'] at hb ⊢
      clear hm e32' e32 HS P2
      obtain ⟨N, hN⟩ : ∃ N, bop 12 X Y = N := ⟨_, rfl⟩
      rw [hN] at hb hb0 EV ⊢
      clear hN HL
      go_wp2_with fail
      refine (rwrap_any _ _ (by omega) (by omega)).mono ?_
      rintro e w' ⟨rfl, rfl⟩
      go_wp2
      go_ret
      exact ⟨ret_int EV.out.symm, rfl⟩

set_option maxHeartbeats 2000000 in
theorem rbits_13 (x y : Int) (w : World) (hx : W32 x) (hy : W32 y) : Calls Try.prog 55 #[.int .u8 13, .int .i32 x, .int .i32 y] w fun e w' => e = .returned (.int .i32 (wv 13 x y)) ∧ w = w' := by
  have EV := Lib.hid (bits_bop (op := 13) (by decide) x y)
  have VX := Lib.hid (fun k => bit_val hx k)
  have VY := Lib.hid (fun k => bit_val hy k)
  have hX : (BitVec.ofInt 32 x).toNat < 2 ^ 32 := (BitVec.ofInt 32 x).isLt
  have hY : (BitVec.ofInt 32 y).toNat < 2 ^ 32 := (BitVec.ofInt 32 y).isLt
  generalize (BitVec.ofInt 32 x).toNat = X at *
  generalize (BitVec.ofInt 32 y).toNat = Y at *
  have HS := Lib.hid (fun k a b => bop_step 13 X Y k (by decide) a b)
  have HL := Lib.hid (bop_lt 13 hX hY)
  go_enter Try.func55, Try.ntmps55
  go_wp2_with fail
  go_loop [7, 8, 9] (fun n p i => ∃ k : Nat, k ≤ 32 ∧ i = .int .i64 k ∧ p = .int .i64 (2 ^ k) ∧ n = .int .i64 (bop 13 X Y % 2 ^ k : Nat)) (fun _ _ i => 32 - (intOf i).toNat)
  case atStart => exact ⟨0, by omega, rfl, rfl, int_eq (by simp [Nat.mod_one])⟩
  case round =>
    obtain ⟨k, hk, rfl, rfl, rfl⟩ := hrel
    have hp := pow_bd k 32 hk
    have e32 : (2 : Int) ^ 32 = 4294967296 := by decide
    rw [e32] at hp
    have hb : ((bop 13 X Y % 2 ^ k : Nat) : Int) < 2 ^ k := by
      have h := Nat.mod_lt (bop 13 X Y) (show 0 < 2 ^ k from Nat.two_pow_pos k)
      have e : ((2 ^ k : Nat) : Int) = 2 ^ k := by simp
      omega
    have hb0 : 0 ≤ ((bop 13 X Y % 2 ^ k : Nat) : Int) := by omega
    obtain ⟨hp1, hp2⟩ := hp
    have P2 := Lib.hid (show (2 : Int) * 2 ^ k = 2 ^ (k + 1) by rw [Int.pow_succ]; omega)
    by_cases hlt : k < 32
    · have hlt' : (k : Int) < 32 := by omega
      have vx := Lib.hid (VX.out k)
      have vy := Lib.hid (VY.out k)
      have st := Lib.hid (HS.out k _ _ rfl rfl)
      have bx := bit_lt X k
      have b2 := bit_lt Y k
      have RX := Lib.hid (rbit_any x k · hx (by omega) (by omega))
      have RY := Lib.hid (rbit_any y k · hy (by omega) (by omega))
      rw [Int.toNat_natCast, vx.out] at RX
      rw [Int.toNat_natCast, vy.out] at RY
      clear vx vy
      generalize X / 2 ^ k % 2 = bX at *
      generalize Y / 2 ^ k % 2 = bY at *
      obtain ⟨N, hN⟩ : ∃ N, bop 13 X Y % 2 ^ k = N := ⟨_, rfl⟩
      rw [hN] at hb hb0 st ⊢
      clear hN
      obtain ⟨p, hp⟩ : ∃ p, (2 : Int) ^ k = p := ⟨_, rfl⟩
      rw [hp] at hb hp1 hp2 st P2 ⊢
      clear hp
      rcases bx with rfl | rfl <;> rcases b2 with rfl | rfl
      all_goals
        go_wp2_with fail
        refine (RX.out _).mono ?_
        rintro e w' ⟨rfl, rfl⟩
        go_wp2_with fail
        refine (RY.out _).mono ?_
        rintro e w' ⟨rfl, rfl⟩
        go_wp2
        go_round
        case rel => exact ⟨k + 1, by omega, by go_num, int_eq P2.out, int_eq (by have h := st.out; simp [addB] at h; first | omega | exact h.symm)⟩
        case measure => simp [intOf]; omega
    · have hge : ¬ (k : Int) < 32 := by omega
      obtain rfl : k = 32 := by omega
      have hm : bop 13 X Y % 2 ^ 32 = bop 13 X Y := Nat.mod_eq_of_lt HL.out
      rw [hm] at hb hb0 ⊢
      have e32' : (2 : Int) ^ 32 = 4294967296 := by decide
      rw [e32'] at hb ⊢
      clear hm e32' e32 HS P2
      obtain ⟨N, hN⟩ : ∃ N, bop 13 X Y = N := ⟨_, rfl⟩
      rw [hN] at hb hb0 EV ⊢
      clear hN HL
      go_wp2_with fail
      refine (rwrap_any _ _ (by omega) (by omega)).mono ?_
      rintro e w' ⟨rfl, rfl⟩
      go_wp2
      go_ret
      exact ⟨ret_int EV.out.symm, rfl⟩

theorem count_eq (y : Int) : (0 ≤ y ∧ y.tmod 32 = y % 32) ∨ (y < 0 ∧ y.tmod 32 = -((-y) % 32)) := by
  by_cases h : 0 ≤ y
  · exact .inl ⟨h, Int.tmod_eq_emod_of_nonneg h⟩
  · right
    refine ⟨by omega, ?_⟩
    have := Int.neg_tmod (-y) 32
    rw [Int.neg_neg] at this
    rw [this, Int.tmod_eq_emod_of_nonneg (by omega)]
set_option maxHeartbeats 400000 in
theorem rcount_any (y : Int) (w : World) (hy : W32 y) : Calls Try.prog 57 #[.int .i32 y] w fun e w' => e = .returned (.int .i64 (y % 32)) ∧ w = w' := by
  obtain ⟨h1, h2⟩ := hy
  have HF := Lib.hid (count_eq y)
  have hb : -32 < y.tmod 32 ∧ y.tmod 32 < 32 := by rcases count_eq y with h | h <;> omega
  obtain ⟨b1, b2⟩ := hb
  obtain ⟨r, hr⟩ : ∃ r, y.tmod 32 = r := ⟨_, rfl⟩
  have HR := Lib.hid hr
  go_enter Try.func57, Try.ntmps57
  go_wp2
  all_goals
    go_ret
    refine ⟨ret_int ?_, rfl⟩
    have hf := HF.out
    omega

end Go.Proofs.Ytjkjcnamlankoaa
