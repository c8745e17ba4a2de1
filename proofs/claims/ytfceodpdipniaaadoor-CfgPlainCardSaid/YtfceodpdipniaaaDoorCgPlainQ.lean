/-
  What is proved here: the code with an inserted OpNop, as numbers: the linker accepts it, and its instructions are the moved ones (plain).
-/
import Derived.Test.YtfceodpdipniaaaDoorCgPlainP
import Derived.Test.YtfceodpdipniaaaDoorCgCode
namespace Go.Proofs.YtfceodpdipniaaaDoor
open Go.RowKit
set_option linter.unusedVariables false
set_option linter.unusedSimpArgs false

/-- The word of an instruction that is moved. -/
def wdOf (cd : Nat → Int) (k a : Nat) : Int := if isBr (insAt cd (a : Int)).op = true then (encI (shI (k : Int) (a : Int) (insAt cd (a : Int)))).1 else cd a
/-- The code with the OpNop. -/
def cdN (cd : Nat → Int) (k : Nat) : Nat → Int := fun j => if j < k then wdOf cd k j else if j = k then 0 else wdOf cd k (j - 1)
def lenN (k i : Nat) : Nat := if i ≤ k then i else i + 1
theorem dec_zero : decI 0 = (⟨0, 0, 0, 0, 0⟩, 0) := by decide +kernel
theorem imm_br : ∀ q, q < 30 → (q = 22 ∨ q = 23 ∨ q = 24) → immLo q = -131072 ∧ immHi q = 131071 := by decide
theorem shI_good {i : Ins} {q : Nat} {k a : Int} (h : Good i q) (hb : isBr i.op = true) (h1 : -1000 ≤ phi k (a + 1 + i.imm) - phi k a - 1) (h2 : phi k (a + 1 + i.imm) - phi k a - 1 ≤ 1000) : Good (shI k a i) q := by
  have hq : q = 22 ∨ q = 23 ∨ q = 24 := by
    have := h.op
    unfold isBr at hb
    simp only [Bool.or_eq_true, decide_eq_true_eq] at hb
    omega
  obtain ⟨e1, e2⟩ := imm_br q h.lt hq
  unfold shI
  rw [if_pos hb]
  exact ⟨h.op, h.lt, h.a, h.b, h.c, by show immLo q ≤ _ ∧ _ ≤ immHi q; rw [e1, e2]; exact ⟨by show -131072 ≤ phi k (a + 1 + i.imm) - phi k a - 1; omega, by show phi k (a + 1 + i.imm) - phi k a - 1 ≤ 131071; omega⟩⟩
theorem phi_near (k x : Int) : x ≤ phi k x ∧ phi k x ≤ x + 1 := by unfold phi; split <;> omega
/-- What the moved word decodes to. -/
theorem wd_dec {cd : Nat → Int} {lk : Int} {n k a : Nat} (hw : ∀ i, i < n → 0 ≤ cd i ∧ cd i < 4294967296) (hn : n ≤ 300) (ha : a < n) (hk : k < n) (hO : OkIns cd lk 0 n a) : decI (wdOf cd k a) = (shI (k : Int) (a : Int) (insAt cd (a : Int)), 0) ∧ 0 ≤ wdOf cd k a ∧ wdOf cd k a < 4294967296 := by
  have hd : (decI (cd a)).2 = 0 := by simpa using hO.dec
  have hi : insAt cd (a : Int) = (decI (cd a)).1 := by simp [insAt]
  obtain ⟨q, hg, hnum⟩ := decI_good (hw a ha).1 hd
  rw [← hi] at hg hnum
  unfold wdOf
  by_cases hb : isBr (insAt cd (a : Int)).op = true
  · rw [if_pos hb]
    have ht := hO.tgt hb
    have p1 := phi_near (k : Int) (a : Int)
    have p2 := phi_near (k : Int) ((a : Int) + 1 + (insAt cd (a : Int)).imm)
    have hg2 := shI_good (k := (k : Int)) (a := (a : Int)) hg hb (by omega) (by omega)
    rw [hg2.enc]
    exact ⟨hg2.dec, hg2.num_in⟩
  · rw [if_neg hb]
    refine ⟨?_, hw a ha⟩
    have e : shI (k : Int) (a : Int) (insAt cd (a : Int)) = insAt cd (a : Int) := by unfold shI; rw [if_neg hb]
    rw [e, hi]
    rw [show (decI (cd a)) = ((decI (cd a)).1, (decI (cd a)).2) from rfl, hd]
theorem cdN_phi (cd : Nat → Int) (k a : Nat) : cdN cd k (phi (k : Int) (a : Int)).toNat = wdOf cd k a := by
  by_cases h : a < k
  · have e : (phi (k : Int) (a : Int)).toNat = a := by unfold phi; rw [if_pos (by omega)]; omega
    rw [e]
    unfold cdN
    rw [if_pos h]
  · have e : (phi (k : Int) (a : Int)).toNat = a + 1 := by unfold phi; rw [if_neg (by omega)]; omega
    rw [e]
    unfold cdN
    rw [if_neg (by omega), if_neg (by omega)]
    rfl
theorem cdN_k (cd : Nat → Int) (k : Nat) : cdN cd k k = 0 := by
  unfold cdN
  rw [if_neg (by omega), if_pos rfl]
/-- Each index of the new code is the insertion's or that of a moved instruction. -/
theorem phi_onto (k x : Int) : x = k ∨ ∃ y, x = phi k y ∧ (x < k → y = x) ∧ (k < x → y = x - 1) := by
  by_cases h : x = k
  · exact .inl h
  · right
    by_cases h1 : x < k
    · exact ⟨x, by unfold phi; rw [if_pos h1], fun _ => rfl, fun h => by omega⟩
    · exact ⟨x - 1, by unfold phi; rw [if_neg (by omega)]; omega, fun h => by omega, fun _ => rfl⟩
structure NewCode (n : Nat) (cd : Nat → Int) (k : Nat) (e : Ent) (sh lk : Int) : Prop where
  good : GoodI (n + 1) (cdN cd k) [⟨e.nm, e.st, e.en + 1, e.da⟩] sh lk
  mv : ∀ a : Int, 0 ≤ a → a < n → insAt (cdN cd k) (phi k a) = shI k a (insAt cd a)
  nop : insAt (cdN cd k) (k : Int) = ⟨0, 0, 0, 0, 0⟩
  wd : ∀ j, j < n + 1 → 0 ≤ cdN cd k j ∧ cdN cd k j < 4294967296
theorem newCode {n : Nat} {cd : Nat → Int} {k : Nat} {e : Ent} {sh lk : Int} (hG : GoodI n cd [e] sh lk) (hw : ∀ i, i < n → 0 ≤ cd i ∧ cd i < 4294967296) (hn : n ≤ 300) (hk : k < n) : NewCode n cd k e sh lk := by
  obtain ⟨c1, c2, c3⟩ := hG.ch
  have c3' : e.en = (n : Int) := c3
  have hO : ∀ a : Nat, a < n → OkIns cd lk 0 n a := fun a ha => by
    have := hG.ins e (by simp) a (by omega) (by omega)
    rw [c1, c3'] at this
    exact this
  have hdk : insAt (cdN cd k) (k : Int) = ⟨0, 0, 0, 0, 0⟩ := by
    show (decI (cdN cd k (k : Int).toNat)).1 = _
    rw [Int.toNat_natCast, cdN_k, dec_zero]
  have hmv : ∀ a : Int, 0 ≤ a → a < n → insAt (cdN cd k) (phi k a) = shI k a (insAt cd a) := fun a h0 h1 => by
    obtain ⟨b, rfl⟩ : ∃ b : Nat, a = (b : Int) := ⟨a.toNat, by omega⟩
    show (decI (cdN cd k (phi (k : Int) (b : Int)).toNat)).1 = _
    rw [cdN_phi, (wd_dec hw hn (by omega) hk (hO b (by omega))).1]
  refine ⟨⟨by omega, by simp, hG.shB, hG.lkB, fun x hx => ?_, fun x hx => ?_, ⟨c1, ?_, ?_⟩, fun x hx j h1 h2 => ?_⟩, hmv, hdk, fun j hj => ?_⟩
  · simp at hx; subst hx; exact hG.da e (by simp)
  · simp at hx; subst hx; exact hG.nm e (by simp)
  · show e.st < e.en + 1; omega
  · show e.en + 1 = ((n + 1 : Nat) : Int); omega
  · simp at hx; subst hx
    simp only at h1 h2 ⊢
    rw [c1, c3']
    rcases phi_onto (k : Int) (j : Int) with e1 | ⟨y, e1, e2, e3⟩
    · have : j = k := by omega
      subst this
      refine ⟨by rw [Int.toNat_natCast, cdN_k, dec_zero], fun hb => ?_, fun hb => ?_⟩
      · rw [hdk] at hb; simp [isBr] at hb
      · rw [hdk] at hb; simp at hb
    · have hy : 0 ≤ y ∧ y < n := by
        by_cases hlt : (j : Int) < k
        · have := e2 hlt; omega
        · have hgt : (k : Int) < j := by
            rcases Int.lt_trichotomy (j : Int) k with h | h | h
            · exact absurd h hlt
            · rw [h] at e1; exact absurd e1.symm phi_ne
            · exact h
          have := e3 hgt; omega
      obtain ⟨b, rfl⟩ : ∃ b : Nat, y = (b : Int) := ⟨y.toNat, by omega⟩
      have hb' : b < n := by omega
      have hw' := wd_dec (k := k) hw hn hb' hk (hO b hb')
      refine ⟨?_, fun hb => ?_, fun hb => ?_⟩
      · rw [e1, cdN_phi, hw'.1]
      · rw [e1, hmv _ (by omega) (by omega)] at hb ⊢
        rw [shI_op] at hb
        have ht := (hO b hb').tgt hb
        have p2 := phi_near (k : Int) ((b : Int) + 1 + (insAt cd (b : Int)).imm)
        unfold shI
        rw [if_pos hb]
        show 0 ≤ phi (k : Int) (b : Int) + 1 + (phi (k : Int) ((b : Int) + 1 + (insAt cd (b : Int)).imm) - phi (k : Int) (b : Int) - 1) ∧ phi (k : Int) (b : Int) + 1 + (phi (k : Int) ((b : Int) + 1 + (insAt cd (b : Int)).imm) - phi (k : Int) (b : Int) - 1) < (n : Int) + 1
        omega
      · rw [e1, hmv _ (by omega) (by omega)] at hb ⊢
        rw [shI_op] at hb
        have hnb : isBr (insAt cd (b : Int)).op = false := by rcases hb with hb | hb <;> simp [isBr, hb]
        have e4 : shI (k : Int) (b : Int) (insAt cd (b : Int)) = insAt cd (b : Int) := by unfold shI; rw [if_neg (by simp [hnb])]
        rw [e4]
        exact (hO b hb').lock hb
  · unfold cdN
    split
    · exact (wd_dec hw hn (by omega) hk (hO j (by omega))).2
    · split
      · omega
      · exact (wd_dec hw hn (by omega) hk (hO (j - 1) (by omega))).2

end Go.Proofs.YtfceodpdipniaaaDoor
