/-
 What is proved here: all registers of the analysis are words; visits and passes make the number smaller if they change anything (plain).
-/
import Derived.Test.YtebklpnkcicpjaaDoorFaPot
import Derived.Test.YtebklpnkcicpjaaDoorFbIp
namespace Go.Proofs.YtebklpnkcicpjaaDoor
open Go.RowKit
set_option linter.unusedVariables false
set_option linter.unusedSimpArgs false

theorem hull_W (l : List Int) : W32 (hullL l).1 ∧ W32 (hullL l).2 := by
 rcases hull_forms l with h | ⟨h, h1, h2⟩
 ·rw [h]; unfold W32; simp only; omega
 ·rw [h]
  have h3 : loL l ≤ hiL l := by
   by_cases hl : l = []
   ·subst hl; decide
   ·exact Int.le_trans (loL_le (nth_zero_mem hl)) (le_hiL (nth_zero_mem hl))
  unfold W32
  simp only
  omega
theorem trI_W (a n : Bool) : W32 (trI a n).1 ∧ W32 (trI a n).2 := by cases a <;> cases n <;> (unfold trI W32; simp)
theorem meet_W {x y : Int × Int} (hx : W32 x.1 ∧ W32 x.2) (hy : W32 y.1 ∧ W32 y.2) : W32 (meetI x y).1 ∧ W32 (meetI x y).2 := by
 unfold meetI W32 at *
 split <;> simp only <;> omega
theorem tmod_W {x y : Int} (h : W32 x) : W32 (x.tmod y) := by
 unfold W32 at *
 have h1 := Int.natAbs_tmod x y
 have h2 : x.natAbs % y.natAbs ≤ x.natAbs := Nat.mod_le _ _
 by_cases h0 : 0 ≤ x
 ·have := Int.tmod_nonneg y h0
  omega
 ·have h3 : 0 ≤ (-x).tmod y := Int.tmod_nonneg y (by omega)
  rw [Int.neg_tmod] at h3
  omega
theorem shr_W {a : Int} (h : W32 a) (n : Nat) : W32 (a / 2 ^ n) := by
 have h1 := shr_bd a n
 unfold W32 at *
 by_cases h2 : 0 ≤ a
 ·have := h1.1 h2; omega
 ·have := h1.2 (by omega); omega
theorem b2i_W (b : Bool) : W32 (b2i b) := by cases b <;> (unfold W32 b2i; simp)
theorem ite_W {c : Prop} [Decidable c] {a b : Int} (ha : W32 a) (hb : W32 b) : W32 (if c then a else b) := by split <;> assumption
theorem wv_W {op a b : Int} (ha : W32 a) : W32 (wv op a b) := by
 have z : W32 0 := by unfold W32; omega
 unfold wv
 repeat' (first | exact wrap32_word _ | exact bits_word _ _ _ | exact b2i_W _ | exact z | exact tmod_W ha | exact shr_W ha _ | refine ite_W ?_ ?_)
theorem apply_W {op : Int} {x y : Int × Int} (hx : W32 x.1 ∧ W32 x.2) (hy : W32 y.1 ∧ W32 y.2) : W32 (applyI op x y).1 ∧ W32 (applyI op x y).2 := by
 have full : W32 ((-2147483648, 2147483647) : Int × Int).1 ∧ W32 ((-2147483648, 2147483647) : Int × Int).2 := by unfold W32; simp
 have em : W32 ((1, 0) : Int × Int).1 ∧ W32 ((1, 0) : Int × Int).2 := by unfold W32; simp
 unfold applyI
 split
 ·exact full
 split
 ·exact em
 rename_i ne
 split
 ·split
  ·rename_i h
   exact ⟨wv_W hx.1, wv_W hx.1⟩
  ·exact em
 unfold genI
 split; exact hull_W _
 split; exact hull_W _
 split; exact hull_W _
 split
 ·unfold divI
  split; exact em
  split; exact full
  exact hull_W _
 split
 ·unfold modI
  split
  ·exact em
  ·unfold W32 modM at *
   simp only
   constructor <;> split <;> omega
 split
 ·unfold bitI
  have ho : ∀ n : Int, W32 n → 0 ≤ n → W32 (onesI n) := fun n h1 h2 => by
   have h3 := onesI_mono (n := n) (m := 2147483647) h1.2
   have h4 := le_onesI h2 h1.2
   have h5 : onesI 2147483647 = 2147483647 := by decide
   unfold W32 at *
   omega
  have hm : W32 (max x.2 y.2) := by unfold W32 at *; omega
  split; · unfold W32 at *; simp only; omega
  split; · unfold W32 at *; simp only; omega
  split; · unfold W32 at *; simp only; omega
  split
  ·refine ⟨by unfold W32 at *; simp only; omega, ho _ hm (by omega)⟩
  split; · unfold W32 at *; simp only; omega
  split
  ·refine ⟨by unfold W32; simp, ho _ hm (by omega)⟩
  exact full
 split
 ·unfold shI
  split
  ·split
   ·exact hull_W _
   ·exact full
  ·split
   ·exact ⟨shr_W hx.1 _, shr_W hx.2 _⟩
   ·unfold W32 at *
    simp only
    constructor <;> split <;> omega
 split
 ·unfold cmpI
  (repeat' split) <;> exact trI_W _ _
 ·unfold logI
  split <;> exact trI_W _ _

theorem imm_W {i : Ins} (hv : validI i = true) (h0 : 0 ≤ i.op) : W32 i.imm ∧ W32 (i.imm - 1) := by
 obtain ⟨k, hk⟩ := (validI_iff h0).1 hv
 have h1 := hk.imm
 have h2 : ∀ k, k < 30 → -131072 ≤ immLo k ∧ immHi k ≤ 131071 := by decide
 have := h2 k hk.lt
 unfold W32
 omega
theorem transR_16 {i : Ins} {r r' : RG} (h0 : 0 ≤ i.op) (hr : R16 r) (h : transR i r = some r') : R16 r' := by
 unfold transR at h
 split at h
 ·rename_i hv
  obtain ⟨w1, w2⟩ := imm_W hv.1 h0
  have z : W32 0 := by unfold W32; omega
  split at h
  ·split at h
   ·cases h
   ·cases h
    exact hr.setRg _ (apply_W (hr.at_ _) (hr.at_ _))
  split at h
  ·cases h; exact hr.setRg _ ⟨w1, w1⟩
  split at h
  ·cases h; exact hr.setRg _ (apply_W (hr.at_ _) ⟨w1, w1⟩)
  split at h
  ·cases h; exact hr.setRg _ (apply_W (hr.at_ _) ⟨w1, w1⟩)
  split at h
  ·cases h; exact hr.setRg _ (apply_W (hr.at_ _) ⟨w1, w1⟩)
  split at h
  ·cases h; exact hr.setRg _ (by unfold fullI W32; simp)
  split at h
  ·split at h
   ·cases h
   ·cases h; exact hr.setRg _ (meet_W (hr.at_ _) ⟨z, w2⟩)
  cases h
  exact hr
 ·cases h
theorem outI_W {op : Int} {t : Bool} {x : Int × Int} (hx : W32 x.1 ∧ W32 x.2) : W32 (outI op t x).1 ∧ W32 (outI op t x).2 := by
 unfold outI
 split
 ·exact meet_W hx (by unfold W32; simp)
 ·unfold withoutI W32 at *
  (repeat' split) <;> first | omega | (simp only; omega)
theorem refR_16 {i : Ins} {r r' : RG} {t : Bool} (hr : R16 r) (h : refR i r t = some r') : R16 r' := by
 unfold refR at h
 split at h
 ·split at h
  ·split at h
   ·cases h
   ·cases h; exact hr.setRg _ (outI_W (hr.at_ _))
  split at h
  ·split at h
   ·cases h; exact hr
   ·cases h
  ·split at h
   ·cases h
   ·cases h; exact hr
 ·cases h
theorem runR_16 : ∀ {l : List Ins} {r r' : RG}, (∀ i ∈ l, 0 ≤ i.op) → R16 r → runR l r = some r' → R16 r'
 | [], r, r', _, hr, h => by cases h; exact hr
 | i :: l, r, r', ho, hr, h => by
  unfold runR at h
  cases e : transR i r with
  | none => rw [e] at h; cases h
  | some x =>
   rw [e] at h
   exact runR_16 (fun j hj => ho j (List.mem_cons_of_mem _ hj)) (transR_16 (ho i (List.mem_cons_self ..)) hr e) h
theorem edgeR_16 {last : Ins} {m k : Nat} {r r' : RG} (hr : R16 r) (h : edgeR last m k r = some r') : R16 r' := by
 unfold edgeR at h
 split at h
 ·cases h; exact hr
 split at h
 ·exact refR_16 hr h
 ·split at h
  ·exact refR_16 hr h
  ·rename_i h1 _
   cases h
   exact refR_16 hr h1
  ·rename_i h1 h2
   cases h
   exact (refR_16 hr h1).join (refR_16 hr h2)
theorem visK_asi {n : Nat} {last : Ins} {nx : List Int} {aft : RG} (ha : R16 aft) (hnx : ∀ t ∈ nx, 0 ≤ t ∧ t < n) {s : AS} (hs : ASI n s) : ∀ k, k ≤ nx.length → ASI n (visK last nx aft s k).1 ∧ ((visK last nx aft s k).2 = true → potS (visK last nx aft s k).1 n < potS s n) ∧ ((visK last nx aft s k).2 = false → (visK last nx aft s k).1 = s)
 | 0, _ => ⟨hs, (fun h => by cases h), fun _ => rfl⟩
 | k + 1, hk => by
  obtain ⟨h1, h2, h3⟩ := visK_asi ha hnx hs k (by omega)
  have ht : 0 ≤ nx.getD k 0 ∧ nx.getD k 0 < n := by
   have e : nx.getD k 0 = nx[k] := by simp [List.getD, List.getElem?_eq_getElem (show k < nx.length by omega)]
   rw [e]
   exact hnx _ (List.getElem_mem _)
  obtain ⟨g1, g2, g3⟩ := stepE_asi h1 (t := (nx.getD k 0).toNat) (by omega) (edgeR last nx.length k aft) (fun r hr => edgeR_16 ha hr)
  unfold visK
  simp only
  refine ⟨g1, fun h => ?_, fun h => ?_⟩
  ·rw [Bool.or_eq_true] at h
   cases q1 : (visK last nx aft s k).2 <;> cases q2 : (stepE (visK last nx aft s k).1 (nx.getD k 0).toNat (edgeR last nx.length k aft)).2
   ·rw [q1, q2] at h; simp at h
   ·have := g2 q2; rw [h3 q1] at this ⊢; exact this
   ·rw [g3 q2]; exact h2 q1
   ·have := g2 q2; have := h2 q1; omega
  ·rw [Bool.or_eq_false_iff] at h
   rw [g3 h.2, h3 h.1]
structure ABok (n : Nat) (b : AB) : Prop where
 op : ∀ i ∈ b.code, 0 ≤ i.op
 nx : ∀ t ∈ b.nx, 0 ≤ t ∧ t < n
theorem visR_asi {n : Nat} {b : AB} (hb : ABok n b) {s : AS} (hs : ASI n s) {k : Nat} (hk : k < n) : ASI n (visR b k s).1 ∧ ((visR b k s).2 = true → potS (visR b k s).1 n < potS s n) ∧ ((visR b k s).2 = false → (visR b k s).1 = s) := by
 unfold visR
 split
 ·exact ⟨hs, (fun h => by cases h), fun _ => rfl⟩
 ·rename_i aft h
  exact visK_asi (runR_16 hb.op (hs.get hk) h) hb.nx hs _ (Nat.le_refl _)
theorem passK_asi {n : Nat} {B : List AB} (hB : ∀ b ∈ B, ABok n b) (hl : B.length = n) {s : AS} (hs : ASI n s) : ∀ k, k ≤ n → ASI n (passK B s k).1 ∧ ((passK B s k).2 = true → potS (passK B s k).1 n < potS s n) ∧ ((passK B s k).2 = false → (passK B s k).1 = s)
 | 0, _ => ⟨hs, (fun h => by cases h), fun _ => rfl⟩
 | k + 1, hk => by
  obtain ⟨h1, h2, h3⟩ := passK_asi hB hl hs k (by omega)
  have e : B.getD k ⟨[], []⟩ = B[k]'(by omega) := by simp [List.getD, List.getElem?_eq_getElem (show k < B.length by omega)]
  obtain ⟨g1, g2, g3⟩ := visR_asi (hB _ (List.getElem_mem (show k < B.length by omega))) h1 (k := k) (by omega)
  rw [← e] at g1 g2 g3
  unfold passK
  simp only
  split
  ·simp only
   refine ⟨g1, fun h => ?_, fun h => ?_⟩
   ·rw [Bool.or_eq_true] at h
    cases q1 : (passK B s k).2 <;> cases q2 : (visR (B.getD k ⟨[], []⟩) k (passK B s k).1).2
    ·rw [q1, q2] at h; simp at h
    ·have := g2 q2; rw [h3 q1] at this ⊢; exact this
    ·rw [g3 q2]; exact h2 q1
    ·have := g2 q2; have := h2 q1; omega
   ·rw [Bool.or_eq_false_iff] at h
    rw [g3 h.2, h3 h.1]
  ·exact ⟨h1, h2, h3⟩
theorem startS_asi (n : Nat) : ASI n (startS n) := by
 refine ⟨by simp [startS], by simp [startS], by simp [startS], fun r hr => by rw [(List.mem_replicate.1 hr).2]; exact R16.zero, fun x hx => ?_⟩
 rw [(List.mem_replicate.1 hx).2]
 have hb : ∀ k, potB (startS n) k ≤ 70 := fun k => by
  unfold potB
  split
  ·exact Nat.le_refl _
  ·have h : potR ((startS n).inn.getD k []) ≤ 64 := by
    have := potR_le (r := (startS n).inn.getD k [])
    have hl : ((startS n).inn.getD k []).length ≤ 16 := by
     unfold startS
     simp only [List.getD]
     by_cases hk : k < n
     ·simp [hk, zeroR]
     ·simp [hk]
    omega
   omega
 have : ∀ m, ((List.range m).map (potB (startS n))).sum ≤ 70 * m := fun m => by
  induction m with
  | zero => simp
  | succ m ih =>
   simp only [List.range_succ, List.map_append, List.map_cons, List.map_nil, List.sum_append, List.sum_cons, List.sum_nil]
   have := hb m
   omega
 have := this n
 unfold potS
 omega

end Go.Proofs.YtebklpnkcicpjaaDoor


