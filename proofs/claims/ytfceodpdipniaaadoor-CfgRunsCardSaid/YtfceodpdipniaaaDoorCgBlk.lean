/-
  What is proved here: plain facts on the blocks that cfg.Build makes, and what slices.Contains returns.
-/
import Derived.Test.YtfceodpdipniaaaDoorCgChk2
namespace Go.Proofs.YtfceodpdipniaaaDoor
open Go.RowKit
set_option linter.unusedVariables false
set_option linter.unusedSimpArgs false

set_option maxHeartbeats 1000000 in
theorem index_any (v : Value) (l : List Int) (x : Int) (w : World) (H : Ints w v l) :
    Calls Tryd.prog 58 #[v, .int .i64 x] w fun e w' => (∃ r : Int, e = .returned (.int .i64 r) ∧ (0 ≤ r ↔ x ∈ l)) ∧ w = w' := by
  obtain ⟨A, cap, rfl, h2, h3, h4⟩ := H
  have HC := Lib.hid h4
  unfold maxLen at h3
  clear h4
  go_enter Tryd.func58, Tryd.ntmps58
  go_upto_region 2 with fail
  go_loopw [5, 8] (fun a5 a8 wr => ∃ j : Nat, j ≤ l.length ∧ a8 = .int .i64 (j : Int) ∧ x ∉ l.take j ∧ wr = w) (fun _ a8 _ => l.length - (intOf a8).toNat)
  case atStart => exact ⟨0, Nat.zero_le _, rfl, by simp, rfl⟩
  case round =>
    obtain ⟨j, hj, rfl, hno, hw⟩ := hrel
    subst hw
    have HNO := Lib.hid hno
    clear hno
    by_cases hlt : j < l.length
    · obtain ⟨b, off, rfl, hb, hc⟩ := HC.out (by omega)
      obtain ⟨s, hs⟩ : ∃ s, l[j] = s := ⟨_, rfl⟩
      have x1 : wr.cell? ⟨b, off + j, none⟩ = some (.int .i64 s) := by rw [hc j hlt, ← hs]; simp [List.getD, List.getElem?_eq_getElem hlt]
      have HS := Lib.hid (show l[j]? = some s by rw [List.getElem?_eq_getElem hlt, hs])
      have dl : decide ((j : Int) < (l.length : Int)) = true := by simpa using hlt
      clear hc hs
      by_cases q : x = s
      · have d : (x == s) = true := by simp [q]
        have HM := Lib.hid (show x ∈ l by rw [q]; exact List.mem_of_getElem? HS.out)
        clear q
        go_wp2_with fail
        go_ret
        exact ⟨⟨(j : Int), rfl, by simp [HM.out]⟩, rfl⟩
      · have d : (x == s) = false := by simp [q]
        have HQ := Lib.hid q
        clear q
        go_wp2_with fail
        go_roundw
        case rel =>
          refine ⟨j + 1, by omega, by go_num, ?_, by first | rfl | trivial⟩
          rw [take_snoc HS.out]
          intro h
          rcases List.mem_append.1 h with h | h
          · exact HNO.out h
          · simp at h; exact HQ.out h
        case measure => simp [intOf]; omega
    · obtain rfl : j = l.length := by omega
      have dl : decide ((l.length : Int) < (l.length : Int)) = false := by simp
      rw [List.take_length] at HNO
      go_wp2_with fail
      go_ret
      exact ⟨⟨-1, rfl, by simp; exact HNO.out⟩, rfl⟩

set_option maxHeartbeats 1000000 in
theorem contains_any (v : Value) (l : List Int) (x : Int) (w : World) (H : Ints w v l) :
    Calls Tryd.prog 39 #[v, .int .i64 x] w fun e w' => e = .returned (.bool (decide (x ∈ l))) ∧ w = w' := by
  have HI := index_any v l x w H
  go_enter Tryd.func39, Tryd.ntmps39
  go_wp2_with (go_at_call 58; refine HI.mono ?_; rintro e w' ⟨⟨r, rfl, hr⟩, rfl⟩)
  go_ret
  refine ⟨ret_bool ?_, rfl⟩
  first | rfl | exact decide_eq_decide.2 hr

/-! ### the blocks -/
section
variable (c : Int → Ins) (st : Int) (D : List Int)
def ldB (x : Int) : Bool := decide (x = st) || D.any (fun a => decide (x ∈ marksI (c a) a))
theorem ldB_iff (x : Int) : ldB c st D x = true ↔ Lead c st D x := by
  unfold ldB Lead
  simp
def setTo (L : List (Int × Int)) (t : Int) : List (Int × Int) := match L.reverse with | [] => [] | (a, _) :: r => (r.reverse) ++ [(a, t)]
def blk : Nat → List (Int × Int)
  | 0 => []
  | m + 1 => if st + m ∈ D then (if ldB c st D (st + m) = true then blk m ++ [(st + m, st + m + 1)] else setTo (blk m) (st + m + 1)) else blk m
end
theorem setTo_snoc (L : List (Int × Int)) (a b t : Int) : setTo (L ++ [(a, b)]) t = L ++ [(a, t)] := by simp [setTo]
theorem snoc_pair (L : List (Int × Int)) (h : L ≠ []) : ∃ M a b, L = M ++ [(a, b)] := by
  rcases snoc_cases L with h' | ⟨t, p, h'⟩
  · exact absurd h' h
  · exact ⟨t, p.1, p.2, h'⟩
/-- What holds of the blocks. -/
structure BInv (c : Int → Ins) (st : Int) (D : List Int) (m : Nat) (L : List (Int × Int)) : Prop where
  lo : ∀ p ∈ L, st ≤ p.1 ∧ p.1 < p.2 ∧ p.2 ≤ st + m
  ordd : L.Pairwise (fun p q => p.2 ≤ q.1)
  last : ∀ p ∈ L, p.2 - 1 ∈ D
  lead : ∀ p ∈ L, p.1 ∈ D ∧ ldB c st D p.1 = true
  cl : ∀ p ∈ L, p.2 < st + m → p.2 ∈ D → ldB c st D p.2 = true
  num : ∀ x, st ≤ x → x < st + m → x ∈ D → ldB c st D x = true → ∃ p ∈ L, p.1 = x
  ne : st ∈ D → 0 < m → L ≠ []
theorem ldB_st (c : Int → Ins) (st : Int) (D : List Int) : ldB c st D st = true := by simp [ldB]
theorem blk_inv (c : Int → Ins) (st : Int) (D : List Int) : ∀ m, BInv c st D m (blk c st D m)
  | 0 => ⟨by simp [blk], by simp [blk], by simp [blk], by simp [blk], by simp [blk], fun x h1 h2 => by omega, fun _ h => by omega⟩
  | m + 1 => by
    have h := blk_inv c st D m
    unfold blk
    by_cases hD : st + (m : Int) ∈ D
    · rw [if_pos hD]
      by_cases hl : ldB c st D (st + m) = true
      · rw [if_pos hl]
        refine ⟨fun p hp => ?_, ?_, fun p hp => ?_, fun p hp => ?_, fun p hp h1 h2 => ?_, fun x h1 h2 h3 h4 => ?_, fun _ _ => by simp⟩
        · rcases List.mem_append.1 hp with hp | hp
          · have := h.lo p hp; omega
          · simp at hp; subst hp; simp; omega
        · rw [List.pairwise_append]
          refine ⟨h.ordd, by simp, fun p hp q hq => ?_⟩
          simp at hq
          subst hq
          have := h.lo p hp
          simp; omega
        · rcases List.mem_append.1 hp with hp | hp
          · exact h.last p hp
          · simp at hp; subst hp; simp only; rw [show st + (m : Int) + 1 - 1 = st + m by omega]; exact hD
        · rcases List.mem_append.1 hp with hp | hp
          · exact h.lead p hp
          · simp at hp; subst hp; exact ⟨hD, hl⟩
        · rcases List.mem_append.1 hp with hp | hp
          · by_cases e : p.2 = st + m
            · rw [e]; exact hl
            · exact h.cl p hp (by omega) h2
          · simp at hp; subst hp; simp at h1; omega
        · by_cases e : x = st + m
          · exact ⟨(st + m, st + m + 1), by simp, e.symm⟩
          · obtain ⟨p, hp, e⟩ := h.num x h1 (by omega) h3 h4
            exact ⟨p, by simp [hp], e⟩
      · rw [if_neg hl]
        have hm : 0 < m := by
          rcases Nat.eq_zero_or_pos m with e | e
          · subst e
            exact absurd (by simpa using ldB_st c st D) hl
          · exact e
        by_cases hE : blk c st D m = []
        · rw [hE] at h ⊢
          refine ⟨by simp [setTo], by simp [setTo], by simp [setTo], by simp [setTo], by simp [setTo], fun x h1 h2 h3 h4 => ?_, fun h1 h2 => absurd rfl (h.ne h1 hm)⟩
          by_cases e : x = st + m
          · rw [e] at h4; exact absurd h4 hl
          · obtain ⟨p, hp, _⟩ := h.num x h1 (by omega) h3 h4
            cases hp
        · obtain ⟨M, a, b, hL⟩ := snoc_pair _ hE
          rw [hL, setTo_snoc]
          rw [hL] at h
          have hab := h.lo (a, b) (by simp)
          simp only at hab
          have hord := h.ordd
          rw [List.pairwise_append] at hord
          refine ⟨fun p hp => ?_, ?_, fun p hp => ?_, fun p hp => ?_, fun p hp h1 h2 => ?_, fun x h1 h2 h3 h4 => ?_, fun _ _ => by simp⟩
          · rcases List.mem_append.1 hp with hp | hp
            · have := h.lo p (by simp [hp]); omega
            · simp at hp; subst hp; simp only; omega
          · rw [List.pairwise_append]
            refine ⟨hord.1, by simp, fun p hp q hq => ?_⟩
            simp at hq
            subst hq
            exact hord.2.2 p hp (a, b) (by simp)
          · rcases List.mem_append.1 hp with hp | hp
            · exact h.last p (by simp [hp])
            · simp at hp; subst hp; simp only; rw [show st + (m : Int) + 1 - 1 = st + m by omega]; exact hD
          · rcases List.mem_append.1 hp with hp | hp
            · exact h.lead p (by simp [hp])
            · simp at hp; subst hp; exact h.lead (a, b) (by simp)
          · rcases List.mem_append.1 hp with hp | hp
            · have := hord.2.2 p hp (a, b) (by simp)
              simp only at this
              exact h.cl p (by simp [hp]) (by omega) h2
            · simp at hp; subst hp; simp at h1; omega
          · by_cases e : x = st + m
            · rw [e] at h4; exact absurd h4 hl
            · obtain ⟨p, hp, e⟩ := h.num x h1 (by omega) h3 h4
              rcases List.mem_append.1 hp with hp | hp
              · exact ⟨p, by simp [hp], e⟩
              · simp at hp; subst hp; exact ⟨(a, st + m + 1), by simp, e⟩
    · rw [if_neg hD]
      refine ⟨fun p hp => ?_, h.ordd, h.last, h.lead, fun p hp h1 h2 => ?_, fun x h1 h2 h3 h4 => ?_, fun h1 h2 => ?_⟩
      · have := h.lo p hp; omega
      · by_cases e : p.2 = st + m
        · rw [e] at h2; exact absurd h2 hD
        · exact h.cl p hp (by omega) h2
      · by_cases e : x = st + m
        · rw [e] at h3; exact absurd h3 hD
        · exact h.num x h1 (by omega) h3 h4
      · rcases Nat.eq_zero_or_pos m with e | e
        · subst e
          exact absurd (by simpa using h1) hD
        · exact h.ne h1 e
theorem blk_len (c : Int → Ins) (st : Int) (D : List Int) : ∀ m, (blk c st D m).length ≤ m
  | 0 => by simp [blk]
  | m + 1 => by
    have h := blk_len c st D m
    unfold blk
    split
    · split
      · simp; omega
      · by_cases hE : blk c st D m = []
        · rw [hE]; simp [setTo]
        · obtain ⟨M, a, b, hL⟩ := snoc_pair _ hE
          rw [hL] at h ⊢
          rw [setTo_snoc]
          simp at h ⊢; omega
    · omega

/-- The numbers of the blocks. -/
def nmb (L : List (Int × Int)) : Int → Option Value := fun x => (L.findIdx? (fun p => p.1 == x)).map (fun i => .int .i64 (i : Int))
theorem nmb_nil : nmb [] = fun _ => none := by funext x; simp [nmb]
theorem nmb_set (L : List (Int × Int)) (a b t : Int) : nmb (L ++ [(a, b)]) = nmb (L ++ [(a, t)]) := by
  funext x
  unfold nmb
  simp [List.findIdx?_append]
theorem nmb_snoc (L : List (Int × Int)) (a b : Int) (h : ∀ p ∈ L, p.1 ≠ a) : updo (nmb L) a (.int .i64 (L.length : Int)) = nmb (L ++ [(a, b)]) := by
  funext x
  unfold updo nmb
  rw [List.findIdx?_append]
  by_cases e : x = a
  · subst e
    have : L.findIdx? (fun p => p.1 == x) = none := by
      rw [List.findIdx?_eq_none_iff]
      intro p hp
      simpa using h p hp
    rw [if_pos rfl, this]
    simp
  · rw [if_neg e]
    have : ([(a, b)] : List (Int × Int)).findIdx? (fun p => p.1 == x) = none := by
      simp
      exact fun h => e h.symm
    rw [this]
    simp
/-- The number of a block's first instruction. -/
def idx (L : List (Int × Int)) (x : Int) : Nat := (L.findIdx? (fun p => p.1 == x)).getD 0
theorem nmb_some {L : List (Int × Int)} {x : Int} (h : ∃ p ∈ L, p.1 = x) : nmb L x = some (.int .i64 (idx L x : Int)) ∧ idx L x < L.length ∧ (L.getD (idx L x) (0, 0)).1 = x := by
  obtain ⟨p, hp, e⟩ := h
  have hs : (L.findIdx? (fun p => p.1 == x)).isSome := by
    rw [List.findIdx?_isSome]
    simp only [List.any_eq_true]
    exact ⟨p, hp, by simp [e]⟩
  obtain ⟨i, hi⟩ := Option.isSome_iff_exists.1 hs
  have h2 := List.findIdx?_eq_some_iff_getElem.1 hi
  obtain ⟨h3, h4, _⟩ := h2
  unfold nmb idx
  rw [hi]
  refine ⟨rfl, h3, ?_⟩
  simp only [Option.getD_some, List.getD_eq_getElem?_getD, List.getElem?_eq_getElem h3]
  simpa using h4

end Go.Proofs.YtfceodpdipniaaaDoor
