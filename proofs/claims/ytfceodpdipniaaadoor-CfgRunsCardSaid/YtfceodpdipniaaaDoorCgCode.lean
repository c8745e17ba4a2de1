/-
  What is proved here: the code of an instruction as a number (plain): Decode is the inverse of Encode.
-/
import Derived.Test.YtfceodpdipniaaaDoorCgReachP
namespace Go.Proofs.YtfceodpdipniaaaDoor
open Go.RowKit
set_option linter.unusedVariables false
set_option linter.unusedSimpArgs false

/-- The code as a number. -/
def numI (i : Ins) : Int := i.op * 67108864 + i.a * 4194304 + i.b * 262144 + i.c * 16384 + (if i.imm < 0 then i.imm + 262144 else i.imm)

theorem u32_wrap_in (n : Int) (h0 : 0 ≤ n) (h1 : n < 2 ^ 32) : IntKind.u32.wrap n = n := by
  have : (2 : Int) ^ 32 = 4294967296 := by decide
  exact IntWalk.u32_in _ (by omega)
theorem mask4 (x : Int) (h0 : 0 ≤ x) (h1 : x < 4294967296) : bits .and .u32 x 15 = x % 16 := by
  have p32 : x < (2 : Int) ^ 32 := by rw [show (2 : Int) ^ 32 = 4294967296 by decide]; exact h1
  have := bits_mask .u32 32 (by decide) u32_wrap_in 4 (by decide) x h0 p32
  simpa using this
theorem mask18 (x : Int) (h0 : 0 ≤ x) (h1 : x < 4294967296) : bits .and .u32 x 262143 = x % 262144 := by
  have p32 : x < (2 : Int) ^ 32 := by rw [show (2 : Int) ^ 32 = 4294967296 by decide]; exact h1
  have := bits_mask .u32 32 (by decide) u32_wrap_in 18 (by decide) x h0 p32
  simpa using this
theorem joinAt (i : Nat) (m : Int) (hm : (2 : Int) ^ i = m) (x y : Int) (h0 : 0 ≤ x) (hx : x % m = 0) (h1 : x < 4294967296) (h2 : 0 ≤ y) (h3 : y < m) (h4 : y < 4294967296) : bits .or .u32 x y = x + y := by
  have e : (2 : Int) ^ 32 = 4294967296 := by decide
  exact bits_join .u32 32 (by decide) u32_wrap_in i x y h0 (by rw [hm]; exact hx) (by omega) h2 (by rw [hm]; exact h3) (by omega)

theorem enc_A (i : Ins) (x : Int) (h0 : 0 ≤ x) (hx : x % 67108864 = 0) (h1 : x < 4294967296) (ha : 0 ≤ i.a) (ha' : i.a ≤ 15) : encStep i x 65 = x + i.a * 4194304 := by
  have e : encStep i x 65 = bits .or .u32 x (bits .and .u32 (i.a % 4294967296) 15 * 4194304 % 4294967296) := by
    unfold encStep letVal posSz posLo
    simp
  rw [e, mask4 _ (by omega) (by omega), show i.a % 4294967296 % 16 * 4194304 % 4294967296 = i.a * 4194304 by omega]
  exact joinAt 26 67108864 (by decide) x _ h0 hx h1 (by omega) (by omega) (by omega)
theorem enc_B (i : Ins) (x : Int) (h0 : 0 ≤ x) (hx : x % 4194304 = 0) (h1 : x < 4294967296) (ha : 0 ≤ i.b) (ha' : i.b ≤ 15) : encStep i x 66 = x + i.b * 262144 := by
  have e : encStep i x 66 = bits .or .u32 x (bits .and .u32 (i.b % 4294967296) 15 * 262144 % 4294967296) := by
    unfold encStep letVal posSz posLo
    simp
  rw [e, mask4 _ (by omega) (by omega), show i.b % 4294967296 % 16 * 262144 % 4294967296 = i.b * 262144 by omega]
  exact joinAt 22 4194304 (by decide) x _ h0 hx h1 (by omega) (by omega) (by omega)
theorem enc_C (i : Ins) (x : Int) (h0 : 0 ≤ x) (hx : x % 262144 = 0) (h1 : x < 4294967296) (ha : 0 ≤ i.c) (ha' : i.c ≤ 15) : encStep i x 67 = x + i.c * 16384 := by
  have e : encStep i x 67 = bits .or .u32 x (bits .and .u32 (i.c % 4294967296) 15 * 16384 % 4294967296) := by
    unfold encStep letVal posSz posLo
    simp
  rw [e, mask4 _ (by omega) (by omega), show i.c % 4294967296 % 16 * 16384 % 4294967296 = i.c * 16384 by omega]
  exact joinAt 18 262144 (by decide) x _ h0 hx h1 (by omega) (by omega) (by omega)
theorem enc_I (i : Ins) (x : Int) (h0 : 0 ≤ x) (hx : x % 262144 = 0) (h1 : x < 4294967296) (ha : -131072 ≤ i.imm) (ha' : i.imm ≤ 131071) : encStep i x 73 = x + (if i.imm < 0 then i.imm + 262144 else i.imm) := by
  have e : encStep i x 73 = bits .or .u32 x (bits .and .u32 (i.imm % 4294967296) 262143 % 4294967296) := by
    unfold encStep letVal posSz posLo
    simp
  rw [e, mask18 _ (by omega) (by omega), show i.imm % 4294967296 % 262144 % 4294967296 = (if i.imm < 0 then i.imm + 262144 else i.imm) by split <;> omega]
  exact joinAt 18 262144 (by decide) x _ h0 hx h1 (by split <;> omega) (by split <;> omega) (by split <;> omega)

theorem raw_A (x : Int) (h0 : 0 ≤ x) (h1 : x < 4294967296) : rawVal x 65 = x / 4194304 % 16 := by
  unfold rawVal
  rw [if_pos rfl, mask4 _ (by omega) (by omega)]
  exact Go.IntWalk.wrap64_in _ (by omega)
theorem raw_B (x : Int) (h0 : 0 ≤ x) (h1 : x < 4294967296) : rawVal x 66 = x / 262144 % 16 := by
  unfold rawVal
  rw [if_neg (by decide), if_pos rfl, mask4 _ (by omega) (by omega)]
  exact Go.IntWalk.wrap64_in _ (by omega)
theorem raw_C (x : Int) (h0 : 0 ≤ x) (h1 : x < 4294967296) : rawVal x 67 = x / 16384 % 16 := by
  unfold rawVal
  rw [if_neg (by decide), if_neg (by decide), if_pos rfl, mask4 _ (by omega) (by omega)]
  exact Go.IntWalk.wrap64_in _ (by omega)
theorem raw_I (x : Int) (h0 : 0 ≤ x) (h1 : x < 4294967296) : rawVal x 73 = if 131072 ≤ x % 262144 then x % 262144 - 262144 else x % 262144 := by
  unfold rawVal
  rw [if_neg (by decide), if_neg (by decide), if_neg (by decide), mask18 _ (by omega) (by omega), Go.IntWalk.wrap64_in (x % 262144) (by omega)]
  split
  · exact Go.IntWalk.wrap64_in _ (by omega)
  · rfl

/-- The shapes of operands. -/
inductive Shp : Type
  | non | abc | abi | ai | i
def Shp.ops : Shp → List UInt8
  | .non => [] | .abc => [65, 66, 67] | .abi => [65, 66, 73] | .ai => [65, 73] | .i => [73]
def shpOf (k : Nat) : Shp := if k < 2 then .non else if k < 14 then .abc else if k = 14 then .ai else if k < 22 then .abi else if k = 22 ∨ k = 23 then .ai else if k = 24 then .i else if k < 28 then .ai else .i
def Shp.aHi : Shp → Int | .non => 0 | .abc => 15 | .abi => 15 | .ai => 15 | .i => 0
def Shp.bHi : Shp → Int | .non => 0 | .abc => 15 | .abi => 15 | .ai => 0 | .i => 0
def Shp.cHi : Shp → Int | .non => 0 | .abc => 15 | .abi => 0 | .ai => 0 | .i => 0
def immLo (k : Nat) : Int := if k < 14 then 0 else if k = 16 ∨ k = 17 ∨ 26 ≤ k then 0 else if k = 25 then 1 else -131072
def immHi (k : Nat) : Int := if k < 14 then 0 else if k = 16 then 31 else if k = 17 then 16383 else if k < 26 then 131071 else if k < 28 then 7 else 3
theorem fm_shape : ∀ k, k < 30 → (fm k).ops = (shpOf k).ops ∧ lowOf (fm k) 0 = 0 ∧ highOf (fm k) 0 = (shpOf k).aHi ∧ lowOf (fm k) 1 = 0 ∧ highOf (fm k) 1 = (shpOf k).bHi ∧ lowOf (fm k) 2 = 0 ∧ highOf (fm k) 2 = (shpOf k).cHi ∧ lowOf (fm k) 3 = immLo k ∧ highOf (fm k) 3 = immHi k := by decide +kernel
theorem imm_in : ∀ k, k < 30 → -131072 ≤ immLo k ∧ immHi k ≤ 131071 := by decide
theorem imm_zero : ∀ k, k < 14 → immLo k = 0 ∧ immHi k = 0 := by decide
theorem imm_non : ∀ k, k < 30 → ((shpOf k).ops = [] ∨ (shpOf k).ops = [65, 66, 67]) → immLo k = 0 ∧ immHi k = 0 := by decide

/-- What a valid instruction is. -/
structure Good (i : Ins) (k : Nat) : Prop where
  op : i.op = (k : Int)
  lt : k < 30
  a : 0 ≤ i.a ∧ i.a ≤ (shpOf k).aHi
  b : 0 ≤ i.b ∧ i.b ≤ (shpOf k).bHi
  c : 0 ≤ i.c ∧ i.c ≤ (shpOf k).cHi
  imm : immLo k ≤ i.imm ∧ i.imm ≤ immHi k
theorem validI_iff {i : Ins} (h0 : 0 ≤ i.op) : validI i = true ↔ ∃ k, Good i k := by
  constructor
  · intro hv
    unfold validI at hv
    simp only [Bool.and_eq_true, decide_eq_true_eq] at hv
    obtain ⟨v0, ⟨⟨v1, v2⟩, v3⟩, v4⟩ := hv
    have ek : i.op = (i.op.toNat : Int) := by omega
    have hk : i.op.toNat < 30 := by omega
    obtain ⟨_, e1, e2, e3, e4, e5, e6, e7, e8⟩ := fm_shape _ hk
    unfold okAt at v1 v2 v3 v4
    rw [e1, e2] at v1
    rw [e3, e4] at v2
    rw [e5, e6] at v3
    rw [e7, e8] at v4
    exact ⟨_, ek, hk, v1, v2, v3, v4⟩
  · rintro ⟨k, h⟩
    have ho : i.op.toNat = k := by have := h.op; omega
    have hl := h.lt
    obtain ⟨_, e1, e2, e3, e4, e5, e6, e7, e8⟩ := fm_shape _ hl
    refine validI_yes (by have := h.op; omega) fun j hj => ?_
    rw [ho]
    unfold okAt
    obtain rfl | rfl | rfl | rfl : j = 0 ∨ j = 1 ∨ j = 2 ∨ j = 3 := by omega
    · rw [e1, e2]; exact h.a
    · rw [e3, e4]; exact h.b
    · rw [e5, e6]; exact h.c
    · rw [e7, e8]; exact h.imm

theorem Good.num_in {i : Ins} {k : Nat} (h : Good i k) : 0 ≤ numI i ∧ numI i < 4294967296 := by
  have hk := h.lt
  have hi := imm_in _ hk
  have ha := h.a
  have hb := h.b
  have hc := h.c
  have hm := h.imm
  have hz := imm_non _ hk
  unfold numI
  rw [h.op]
  cases hs : shpOf k <;> rw [hs] at ha hb hc hz <;> simp only [Shp.aHi, Shp.bHi, Shp.cHi, Shp.ops, true_or, or_true, forall_const] at ha hb hc hz <;> split <;> omega
theorem Good.enc {i : Ins} {k : Nat} (h : Good i k) : encI i = (numI i, 0) := by
  have hk := h.lt
  have hi := imm_in _ hk
  have ha := h.a
  have hb := h.b
  have hc := h.c
  have hm := h.imm
  have hz := imm_non _ hk
  have hop := h.op
  have ho : i.op.toNat = k := by omega
  unfold encI
  rw [if_pos ((validI_iff (by omega)).2 ⟨k, h⟩), ho, (fm_shape k hk).1]
  congr 1
  unfold encF numI
  have e65 : ((65 : UInt8).toNat : Int) = 65 := rfl
  have e66 : ((66 : UInt8).toNat : Int) = 66 := rfl
  have e67 : ((67 : UInt8).toNat : Int) = 67 := rfl
  have e73 : ((73 : UInt8).toNat : Int) = 73 := rfl
  cases hs : shpOf k <;> rw [hs] at ha hb hc hz <;> simp only [Shp.aHi, Shp.bHi, Shp.cHi, Shp.ops, true_or, or_true, forall_const, List.cons_ne_nil, false_or, or_false, List.foldl_cons, List.foldl_nil, e65, e66, e67, e73] at ha hb hc hz ⊢
  · split <;> omega
  · rw [enc_A i _ (by omega) (by omega) (by omega) (by omega) (by omega), enc_B i _ (by omega) (by omega) (by omega) (by omega) (by omega), enc_C i _ (by omega) (by omega) (by omega) (by omega) (by omega)]
    split <;> omega
  · rw [enc_A i _ (by omega) (by omega) (by omega) (by omega) (by omega), enc_B i _ (by omega) (by omega) (by omega) (by omega) (by omega), enc_I i _ (by omega) (by omega) (by omega) (by omega) (by omega)]
    split <;> omega
  · rw [enc_A i _ (by omega) (by omega) (by omega) (by omega) (by omega), enc_I i _ (by omega) (by omega) (by omega) (by omega) (by omega)]
    split <;> omega
  · rw [enc_I i _ (by omega) (by omega) (by omega) (by omega) (by omega)]
    split <;> omega
theorem Good.dec {i : Ins} {k : Nat} (h : Good i k) : decI (numI i) = (i, 0) := by
  have hk := h.lt
  have hi := imm_in _ hk
  have ha := h.a
  have hb := h.b
  have hc := h.c
  have hm := h.imm
  have hz := imm_non _ hk
  have hop := h.op
  have hin := h.num_in
  have hd : numI i / 67108864 = (k : Int) := by
    unfold numI
    cases hs : shpOf k <;> rw [hs] at ha hb hc hz <;> simp only [Shp.aHi, Shp.bHi, Shp.cHi, Shp.ops, true_or, or_true, forall_const] at ha hb hc hz <;> split <;> omega
  have hdo : decOf (numI i) = i := by
    unfold decOf decF
    rw [hd]
    rw [show ((k : Int)).toNat = k from rfl, (fm_shape k hk).1]
    have e65 : ((65 : UInt8).toNat : Int) = 65 := rfl
    have e66 : ((66 : UInt8).toNat : Int) = 66 := rfl
    have e67 : ((67 : UInt8).toNat : Int) = 67 := rfl
    have e73 : ((73 : UInt8).toNat : Int) = 73 := rfl
    obtain ⟨op, a, b, c, imm⟩ := i
    simp only at hop ha hb hc hm
    cases hs : shpOf k <;> rw [hs] at ha hb hc hz <;> simp only [Shp.aHi, Shp.bHi, Shp.cHi, Shp.ops, true_or, or_true, forall_const, List.cons_ne_nil, false_or, or_false, List.foldl_cons, List.foldl_nil, e65, e66, e67, e73, setLet, if_true, if_false, Int.reduceEq, raw_A _ hin.1 hin.2, raw_B _ hin.1 hin.2, raw_C _ hin.1 hin.2, raw_I _ hin.1 hin.2] at ha hb hc hz ⊢
    all_goals
      simp only [numI, Ins.mk.injEq]
      refine ⟨by omega, ?_, ?_, ?_, ?_⟩
      all_goals first | omega | (split <;> omega) | (split <;> split <;> omega)
  unfold decI
  rw [hdo, h.enc, if_pos ⟨by omega, rfl⟩]
/-- What Decode returns, if it returns an instruction. -/
theorem decI_good {x : Int} (h0 : 0 ≤ x) (h : (decI x).2 = 0) : ∃ k, Good (decI x).1 k ∧ numI (decI x).1 = x := by
  unfold decI at h ⊢
  by_cases hc : x / 67108864 < 30 ∧ encI (decOf x) = (x, 0)
  · rw [if_pos hc] at h ⊢
    have ho : (decOf x).op = x / 67108864 := decF_op x _
    have hv : validI (decOf x) = true := by
      have h2 := hc.2
      unfold encI at h2
      split at h2
      · assumption
      · simp at h2
    obtain ⟨k, hg⟩ := (validI_iff (by rw [ho]; omega)).1 hv
    refine ⟨k, hg, ?_⟩
    have h3 := hg.enc
    rw [hc.2] at h3
    simpa using h3.symm
  · rw [if_neg hc] at h
    cases h

end Go.Proofs.YtfceodpdipniaaaDoor
