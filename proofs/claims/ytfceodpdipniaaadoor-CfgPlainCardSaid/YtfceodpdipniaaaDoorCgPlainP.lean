/-
  What is proved here: an inserted OpNop changes neither the number of blocks nor their successors (plain).
-/
import Derived.Test.YtfceodpdipniaaaDoorCgOut
namespace Go.Proofs.YtfceodpdipniaaaDoor
open Go.RowKit
set_option linter.unusedVariables false
set_option linter.unusedSimpArgs false

/-- Where an instruction lies behind the insertion. -/
def phi (k x : Int) : Int := if x < k then x else x + 1
theorem phi_inj {k x y : Int} (h : phi k x = phi k y) : x = y := by unfold phi at h; split at h <;> split at h <;> omega
theorem phi_ne {k x : Int} : phi k x ≠ k := by unfold phi; split <;> omega
theorem phi_succ {k x : Int} (h : x ≠ k - 1) : phi k x + 1 = phi k (x + 1) := by unfold phi; split <;> split <;> omega
/-- A branch that is moved. -/
def shI (k a : Int) (i : Ins) : Ins := if isBr i.op = true then { i with imm := phi k (a + 1 + i.imm) - phi k a - 1 } else i
theorem shI_op (k a : Int) (i : Ins) : (shI k a i).op = i.op := by unfold shI; split <;> rfl

theorem shI_succ {k a : Int} {i : Ins} (h : a ≠ k - 1) : succI (shI k a i) (phi k a) = (succI i a).map (phi k) := by
  unfold succI
  rw [shI_op]
  by_cases h1 : i.op = 1
  · simp [h1]
  rw [if_neg h1, if_neg h1]
  by_cases h2 : i.op = 24
  · rw [if_pos h2, if_pos h2]
    have hb : isBr i.op = true := by simp [isBr, h2]
    unfold shI
    rw [if_pos hb]
    simp only [List.map_cons, List.map_nil]
    congr 1
    omega
  rw [if_neg h2, if_neg h2]
  by_cases h3 : i.op = 22 ∨ i.op = 23
  · rw [if_pos h3, if_pos h3]
    have hb : isBr i.op = true := by rcases h3 with h3 | h3 <;> simp [isBr, h3]
    unfold shI
    rw [if_pos hb]
    simp only [List.map_cons, List.map_nil, phi_succ h]
    congr 2
    rw [← phi_succ h]
    omega
  rw [if_neg h3, if_neg h3]
  simp [phi_succ h]
theorem shI_last {k : Int} {i : Ins} (h1 : isBr i.op = false) (h2 : i.op ≠ 1) : succI (shI k (k - 1) i) (k - 1) = [k] := by
  unfold succI
  rw [shI_op, if_neg h2]
  unfold isBr at h1
  simp only [Bool.or_eq_false_iff, decide_eq_false_iff_not] at h1
  rw [if_neg h1.2, if_neg (by rintro (h | h); exact h1.1.1 h; exact h1.1.2 h)]
  congr 1
  omega
theorem succ_last {k : Int} {i : Ins} (h1 : isBr i.op = false) (h2 : i.op ≠ 1) : succI i (k - 1) = [k] := by
  unfold succI
  rw [if_neg h2]
  unfold isBr at h1
  simp only [Bool.or_eq_false_iff, decide_eq_false_iff_not] at h1
  rw [if_neg h1.2, if_neg (by rintro (h | h); exact h1.1.1 h; exact h1.1.2 h)]
  congr 1
  omega

/-- The setting. -/
structure Put (c c' : Int → Ins) (n k : Int) (D : List Int) : Prop where
  k0 : 0 < k
  kn : k < n
  gi : GInv c 0 n D (blk c 0 D (n - 0).toNat)
  kD : k ∈ D
  kl : ldB c 0 D k = false
  sh : ∀ a, 0 ≤ a → a < n → c' (phi k a) = shI k a (c a)
  nop : c' k = ⟨0, 0, 0, 0, 0⟩
section
variable {c c' : Int → Ins} {n k : Int} {D D' : List Int}
theorem Put.inn (h : Put c c' n k D) : Inner c 0 D k := h.gi.inner h.kD h.kl
theorem nop_succ (h : Put c c' n k D) : succI (c' k) k = [k + 1] := by rw [h.nop]; rfl
theorem phi_range (h : Put c c' n k D) {x : Int} (h0 : 0 ≤ x) (h1 : x < n) : 0 ≤ phi k x ∧ phi k x < n + 1 := by unfold phi; split <;> omega
theorem phi_k1 (h : Put c c' n k D) : phi k (k - 1) = k - 1 := by unfold phi; rw [if_pos (by omega)]
theorem phi_kk : phi k k = k + 1 := by unfold phi; rw [if_neg (by omega)]
theorem phi_0 (h : Put c c' n k D) : phi k 0 = 0 := by unfold phi; rw [if_pos h.k0]
theorem Put.rch_k1 (h : Put c c' n k D) {hk : Rch c' 0 (n + 1) (k - 1)} : Rch c' 0 (n + 1) k := by
  have hr := h.gi.range h.inn.before
  refine .step hk ?_ (by have := h.k0; omega) (by have := h.kn; omega)
  have e := h.sh (k - 1) hr.1 hr.2
  rw [phi_k1 h] at e
  rw [e, shI_last h.inn.br h.inn.halt]
  simp
theorem Put.fwd (h : Put c c' n k D) {a : Int} (ha : Rch c 0 n a) : Rch c' 0 (n + 1) (phi k a) := by
  induction ha with
  | start => rw [phi_0 h]; exact .start
  | step h1 h2 h3 h4 ih =>
    rename_i a t
    have hr := h1.range _ _ _ h.gi.lt
    have hp := phi_range h h3 h4
    by_cases e : a = k - 1
    · subst e
      rw [succ_last h.inn.br h.inn.halt] at h2
      have ht : t = k := by simpa using h2
      subst ht
      rw [phi_k1 h] at ih
      have hk := h.rch_k1 (hk := ih)
      refine .step hk ?_ hp.1 hp.2
      rw [nop_succ h, phi_kk]
      simp
    · refine .step ih ?_ hp.1 hp.2
      rw [h.sh a hr.1 hr.2, shI_succ e]
      exact List.mem_map.2 ⟨t, h2, rfl⟩
theorem Put.rk (h : Put c c' n k D) : Rch c' 0 (n + 1) k := by
  have h1 := h.fwd ((h.gi.mem _).1 h.inn.before)
  rw [phi_k1 h] at h1
  exact h.rch_k1 (hk := h1)
theorem Put.bwd (h : Put c c' n k D) {x : Int} (hx : Rch c' 0 (n + 1) x) : x = k ∨ ∃ y, Rch c 0 n y ∧ x = phi k y := by
  induction hx with
  | start => exact .inr ⟨0, .start, (phi_0 h).symm⟩
  | step h1 h2 h3 h4 ih =>
    rename_i a t
    rcases ih with rfl | ⟨y, hy, rfl⟩
    · rw [nop_succ h] at h2
      exact .inr ⟨a, (h.gi.mem _).1 h.kD, by rw [phi_kk]; simpa using h2⟩
    · have hr := hy.range _ _ _ h.gi.lt
      rw [h.sh y hr.1 hr.2] at h2
      by_cases e : y = k - 1
      · subst e
        rw [phi_k1 h, shI_last h.inn.br h.inn.halt] at h2
        exact .inl (by simpa using h2)
      · rw [shI_succ e] at h2
        obtain ⟨t0, ht0, rfl⟩ := List.mem_map.1 h2
        exact .inr ⟨t0, (h.gi.mem _).1 (h.gi.all y ((h.gi.mem _).2 hy) t0 ht0), rfl⟩
/-- No successor leaves the range. -/
theorem Put.noBad (h : Put c c' n k D) {x : Int} (hx : Rch c' 0 (n + 1) x) : ¬ Bads c' 0 (n + 1) x := by
  rintro ⟨t, ht, hn⟩
  rcases h.bwd hx with rfl | ⟨y, hy, rfl⟩
  · rw [nop_succ h] at ht
    have : t = x + 1 := by simpa using ht
    have := h.k0
    have := h.kn
    omega
  · have hr := hy.range _ _ _ h.gi.lt
    rw [h.sh y hr.1 hr.2] at ht
    by_cases e : y = k - 1
    · subst e
      rw [phi_k1 h, shI_last h.inn.br h.inn.halt] at ht
      have : t = k := by simpa using ht
      have := h.k0
      have := h.kn
      omega
    · rw [shI_succ e] at ht
      obtain ⟨t0, ht0, rfl⟩ := List.mem_map.1 ht
      have hr0 := h.gi.range (h.gi.all y ((h.gi.mem _).2 hy) t0 ht0)
      exact hn (phi_range h hr0.1 hr0.2)
theorem Put.marks (h : Put c c' n k D) {a : Int} (ha : a ∈ D) : marksI (c' (phi k a)) (phi k a) = (marksI (c a) a).map (phi k) := by
  have hr := h.gi.range ha
  rw [h.sh a hr.1 hr.2]
  unfold marksI
  rw [shI_op]
  by_cases hb : isBr (c a).op = true
  · rw [if_pos hb, if_pos hb]
    refine shI_succ (fun e => ?_)
    have := h.inn.br
    rw [← e, hb] at this
    cases this
  rw [if_neg hb, if_neg hb]
  by_cases h28 : (c a).op = 28
  · rw [if_pos h28, if_pos h28]; rfl
  rw [if_neg h28, if_neg h28]
  by_cases h29 : (c a).op = 29
  · rw [if_pos h29, if_pos h29]
    have e : a ≠ k - 1 := fun e => h.inn.unlock (by rw [← e]; exact h29)
    simp [phi_succ e]
  · rw [if_neg h29, if_neg h29]; rfl
theorem Put.marksK (h : Put c c' n k D) : marksI (c' k) k = [] := by rw [h.nop]; rfl
theorem Put.mem (h : Put c c' n k D) (hD : ∀ a, a ∈ D' ↔ Rch c' 0 (n + 1) a) (x : Int) : x ∈ D' ↔ x = k ∨ ∃ y ∈ D, x = phi k y := by
  rw [hD]
  constructor
  · intro hx
    rcases h.bwd hx with e | ⟨y, hy, e⟩
    · exact .inl e
    · exact .inr ⟨y, (h.gi.mem _).2 hy, e⟩
  · rintro (rfl | ⟨y, hy, rfl⟩)
    · exact h.rk
    · exact h.fwd ((h.gi.mem _).1 hy)
theorem Put.mem_phi (h : Put c c' n k D) (hD : ∀ a, a ∈ D' ↔ Rch c' 0 (n + 1) a) (x : Int) : phi k x ∈ D' ↔ x ∈ D := by
  rw [h.mem hD]
  constructor
  · rintro (e | ⟨y, hy, e⟩)
    · exact absurd e phi_ne
    · rw [phi_inj e]; exact hy
  · exact fun hx => .inr ⟨x, hx, rfl⟩
theorem Put.ld (h : Put c c' n k D) (hD : ∀ a, a ∈ D' ↔ Rch c' 0 (n + 1) a) (x : Int) : ldB c' 0 D' (phi k x) = ldB c 0 D x := by
  apply Bool.eq_iff_iff.2
  rw [ldB_iff, ldB_iff]
  unfold Lead
  constructor
  · rintro (e | ⟨a', ha', hm⟩)
    · rw [← phi_0 h] at e; exact .inl (phi_inj e)
    · rcases (h.mem hD a').1 ha' with rfl | ⟨a, ha, rfl⟩
      · rw [h.marksK] at hm; cases hm
      · rw [h.marks ha] at hm
        obtain ⟨t, ht, e⟩ := List.mem_map.1 hm
        exact .inr ⟨a, ha, by rw [← phi_inj e]; exact ht⟩
  · rintro (e | ⟨a, ha, hm⟩)
    · rw [e, phi_0 h]; exact .inl rfl
    · exact .inr ⟨phi k a, (h.mem_phi hD a).2 ha, by rw [h.marks ha]; exact List.mem_map.2 ⟨x, hm, rfl⟩⟩
theorem Put.ldK (h : Put c c' n k D) (hD : ∀ a, a ∈ D' ↔ Rch c' 0 (n + 1) a) : ldB c' 0 D' k = false := by
  rcases hl : ldB c' 0 D' k
  · rfl
  · rw [ldB_iff] at hl
    rcases hl with e | ⟨a', ha', hm⟩
    · have := h.k0; omega
    · rcases (h.mem hD a').1 ha' with rfl | ⟨a, ha, rfl⟩
      · rw [h.marksK] at hm; cases hm
      · rw [h.marks ha] at hm
        obtain ⟨t, ht, e⟩ := List.mem_map.1 hm
        exact absurd e phi_ne
theorem blk_succ (c : Int → Ins) (st : Int) (D : List Int) (m : Nat) : blk c st D (m + 1) = if st + m ∈ D then (if ldB c st D (st + m) = true then blk c st D m ++ [(st + m, st + m + 1)] else setTo (blk c st D m) (st + m + 1)) else blk c st D m := rfl
/-- A block behind the insertion. -/
def phi2 (k : Int) (p : Int × Int) : Int × Int := (phi k p.1, phi k p.2)
theorem setTo_map (k t : Int) (L : List (Int × Int)) : setTo (L.map (phi2 k)) (phi k t) = (setTo L t).map (phi2 k) := by
  rcases snoc_cases L with h | ⟨M, p, h⟩
  · subst h; rfl
  · subst h
    obtain ⟨a, b⟩ := p
    rw [List.map_append]
    show setTo (M.map (phi2 k) ++ [(phi k a, phi k b)]) (phi k t) = _
    rw [setTo_snoc, setTo_snoc, List.map_append]
    rfl
theorem Put.blk_lo (h : Put c c' n k D) (hD : ∀ a, a ∈ D' ↔ Rch c' 0 (n + 1) a) : ∀ m : Nat, (m : Int) ≤ k → blk c' 0 D' m = blk c 0 D m
  | 0, _ => rfl
  | m + 1, hm => by
    have e : phi k (0 + (m : Int)) = 0 + (m : Int) := by unfold phi; rw [if_pos (by omega)]
    have h1 := h.mem_phi hD (0 + (m : Int))
    have h2 := h.ld hD (0 + (m : Int))
    rw [e] at h1 h2
    unfold blk
    rw [h.blk_lo hD m (by omega), h2]
    simp only [h1]
theorem Put.blk_k (h : Put c c' n k D) {q : Nat} (hq : (q : Int) = k) : ∃ M a, blk c 0 D q = M ++ [(a, k)] := by
  have hg : ∀ x ∈ D, ldB c 0 D x = false → x ≠ (0 : Int) ∧ x - 1 ∈ D := fun x hx hl' => ⟨(h.gi.inner hx hl').ne, (h.gi.inner hx hl').before⟩
  obtain ⟨M, a, hM⟩ := (blk_inner hg q).2 (by have := h.k0; omega) (by rw [hq, Int.zero_add]; exact h.inn.before)
  exact ⟨M, a, by rw [hM, hq, Int.zero_add]⟩
theorem Put.blk_hi (h : Put c c' n k D) (hD : ∀ a, a ∈ D' ↔ Rch c' 0 (n + 1) a) {q : Nat} (hq : (q : Int) = k) : ∀ d : Nat, blk c' 0 D' (q + d + 1) = (blk c 0 D (q + d)).map (phi2 k)
  | 0 => by
    obtain ⟨M, a, hM⟩ := h.blk_k hq
    have hI := blk_inv c 0 D q
    rw [hM] at hI
    have hl := h.blk_lo hD q (by omega)
    rw [blk_succ c' 0 D' (q + 0), Nat.add_zero, hl, hM, Int.zero_add, hq, if_pos ((h.mem hD k).2 (.inl rfl)), if_neg (by rw [h.ldK hD]; simp), setTo_snoc, List.map_append]
    have ha := hI.lo (a, k) (by simp)
    have e1 : M.map (phi2 k) = M := by
      have : ∀ p ∈ M, phi2 k p = p := fun p hp => by
        have h1 := List.pairwise_append.1 hI.ordd
        have h2 := h1.2.2 p hp (a, k) (by simp)
        have h3 := hI.lo p (by simp [hp])
        simp only at ha h2
        unfold phi2 phi
        rw [if_pos (by omega), if_pos (by omega)]
      rw [List.map_congr_left this]
      simp
    have e2 : phi2 k (a, k) = (a, k + 1) := by
      simp only at ha
      unfold phi2
      simp only
      rw [phi_kk]
      unfold phi
      rw [if_pos (by omega)]
    rw [e1]
    simp only [List.map_cons, List.map_nil, e2]
  | d + 1 => by
    have ih := h.blk_hi hD hq d
    have e : phi k (0 + ((q + d : Nat) : Int)) = 0 + ((q + d + 1 : Nat) : Int) := by unfold phi; rw [if_neg (by omega)]; omega
    have e' : phi k (0 + ((q + d : Nat) : Int) + 1) = 0 + ((q + d + 1 : Nat) : Int) + 1 := by unfold phi; rw [if_neg (by omega)]; omega
    have h1 := h.mem_phi hD (0 + ((q + d : Nat) : Int))
    have h2 := h.ld hD (0 + ((q + d : Nat) : Int))
    rw [e] at h1 h2
    show blk c' 0 D' (q + d + 1 + 1) = (blk c 0 D (q + d + 1)).map (phi2 k)
    rw [blk_succ c' 0 D' (q + d + 1), blk_succ c 0 D (q + d), ih, h2]
    by_cases hx : (0 : Int) + ((q + d : Nat) : Int) ∈ D
    · rw [if_pos hx, if_pos (h1.2 hx)]
      by_cases hl : ldB c 0 D (0 + ((q + d : Nat) : Int)) = true
      · rw [if_pos hl, if_pos hl, List.map_append]
        simp only [List.map_cons, List.map_nil, phi2, e, e']
      · rw [if_neg hl, if_neg hl, ← setTo_map, e']
    · rw [if_neg hx, if_neg (fun hh => hx (h1.1 hh))]
theorem Put.blk_all (h : Put c c' n k D) (hD : ∀ a, a ∈ D' ↔ Rch c' 0 (n + 1) a) : blk c' 0 D' (n + 1 - 0).toNat = (blk c 0 D (n - 0).toNat).map (phi2 k) := by
  have h1 := h.k0
  have h2 := h.kn
  have := h.blk_hi hD (q := k.toNat) (by omega) (n.toNat - k.toNat)
  rw [show k.toNat + (n.toNat - k.toNat) + 1 = (n + 1 - 0).toNat by omega, show k.toNat + (n.toNat - k.toNat) = (n - 0).toNat by omega] at this
  exact this
theorem idx_map (k : Int) (L : List (Int × Int)) (s : Int) : idx (L.map (phi2 k)) (phi k s) = idx L s := by
  unfold idx
  rw [List.findIdx?_map]
  congr 2
  funext p
  show (phi k p.1 == phi k s) = (p.1 == s)
  by_cases e : p.1 = s
  · rw [e]; simp
  · rw [beq_eq_false_iff_ne.2 e, beq_eq_false_iff_ne.2 (fun h => e (phi_inj h))]
theorem nxl_map (k : Int) (L : List (Int × Int)) (S : List Int) : nxl (L.map (phi2 k)) (S.map (phi k)) = nxl L S := by
  unfold nxl
  rw [List.foldl_map]
  simp only [idx_map]
theorem Put.next (h : Put c c' n k D) {j : Nat} (hj : j < (blk c 0 D (n - 0).toNat).length) : nextOf c' ((blk c 0 D (n - 0).toNat).map (phi2 k)) j = nextOf c (blk c 0 D (n - 0).toNat) j := by
  obtain ⟨L, hL⟩ : ∃ L, blk c 0 D (n - 0).toNat = L := ⟨_, rfl⟩
  have hgi := h.gi
  rw [hL] at hj hgi ⊢
  have hb := hgi.b
  have hm := List.getElem_mem hj
  have e1 : L.getD j (0, 0) = L[j] := by simp [List.getD, List.getElem?_eq_getElem hj]
  have e2 : (L.map (phi2 k)).getD j (0, 0) = phi2 k L[j] := by simp [List.getD, List.getElem?_eq_getElem hj]
  have hlast := hb.last _ hm
  have hr := hgi.range hlast
  have hne : (L[j]).2 ≠ k := fun e => by
    have := hb.cl _ hm (by have := h.kn; have := h.k0; omega) (by rw [e]; exact h.kD)
    rw [e, h.kl] at this
    cases this
  have e3 : phi k (L[j]).2 - 1 = phi k ((L[j]).2 - 1) := by
    have := phi_succ (k := k) (x := (L[j]).2 - 1) (by omega)
    rw [show (L[j]).2 - 1 + 1 = (L[j]).2 by omega] at this
    omega
  unfold nextOf lastI
  rw [e1, e2]
  show nxl _ (succI (c' (phi k (L[j]).2 - 1)) (phi k (L[j]).2 - 1)) = _
  rw [e3, h.sh _ hr.1 hr.2, shI_succ (by omega), nxl_map]
/-- The results of Build before and behind the insertion. -/
theorem Put.same {r' : Res} (h : Put c c' n k D) (hO : Out c' 0 (n + 1) r') : r'.er = 0 ∧ r'.G.length = (gBlks c (blk c 0 D (n - 0).toNat)).length ∧ ∀ i, (r'.G.getD i ⟨0, 0, []⟩).nx = ((gBlks c (blk c 0 D (n - 0).toNat)).getD i ⟨0, 0, []⟩).nx := by
  have hlt : (0 : Int) < n + 1 := by have := h.k0; have := h.kn; omega
  cases hO with
  | bad D2 b h0 hR =>
    rcases hR.b with ⟨e, _⟩ | ⟨h1, h2, _⟩
    · omega
    · exact absurd h2 (h.noBad (hR.dr _ h1))
  | ok D2 hR =>
    have hD : ∀ a, a ∈ D2 ↔ Rch c' 0 (n + 1) a := hR.mem hlt
    have hA := h.blk_all hD
    refine ⟨rfl, ?_, fun i => ?_⟩
    · show (gBlks c' (blk c' 0 D2 (n + 1 - 0).toNat)).length = _
      rw [gBlks_len, gBlks_len, hA, List.length_map]
    · show ((gBlks c' (blk c' 0 D2 (n + 1 - 0).toNat)).getD i ⟨0, 0, []⟩).nx = _
      rw [hA]
      by_cases hi : i < (blk c 0 D (n - 0).toNat).length
      · rw [List.getD_eq_getElem?_getD, List.getD_eq_getElem?_getD, gBlks_at c' _ (by rw [List.length_map]; exact hi), gBlks_at c _ hi]
        exact h.next hi
      · rw [List.getD_eq_getElem?_getD, List.getD_eq_getElem?_getD, List.getElem?_eq_none (by rw [gBlks_len, List.length_map]; omega), List.getElem?_eq_none (by rw [gBlks_len]; omega)]
end
theorem edg_same {G G' : List Blk} (hl : G'.length = G.length) (hn : ∀ i, (G'.getD i ⟨0, 0, []⟩).nx = (G.getD i ⟨0, 0, []⟩).nx) : edg G' G'.length [] = edg G G.length [] := by
  unfold edg
  rw [hl]
  simp only [hn]
theorem exits_same {G G' : List Blk} (hl : G'.length = G.length) (hn : ∀ i, (G'.getD i ⟨0, 0, []⟩).nx = (G.getD i ⟨0, 0, []⟩).nx) : exits G' G'.length = exits G G.length := by
  unfold exits
  rw [hl]
  simp only [hn]

end Go.Proofs.YtfceodpdipniaaaDoor
