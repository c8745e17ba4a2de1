/-
  What is proved here: parts mPlain, mOrd, mVisit, mRev, mOrder, mNca, pPlain, mCom, mTree, pDom.
-/
import Derived.Test.YtlmgkipmfgijiaaGreatDoorXa
import Derived.Test.YtlmgkipmfgijiaaGreatDoorXd
import Derived.Laws.EntriesVeiled
namespace Go.Proofs.YtlmgkipmfgijiaaGreatDoor
set_option linter.unusedVariables false
set_option linter.unusedSimpArgs false
set_option maxRecDepth 100000
set_option maxHeartbeats 8000000
section
inductive Path (nx : Nat → List Nat) : Nat → List Nat → Prop
 | nil : Path nx 0 [0]
 | step {p b : Nat} {l : List Nat} : Path nx p l → b ∈ nx p → Path nx b (b :: l)
inductive Wk (nx : Nat → List Nat) (pos : Nat → Nat) : Nat → Nat → List Nat → Prop
 | nil (k : Nat) : Wk nx pos k 0 [0]
 | fwd {k p b : Nat} {l : List Nat} : Wk nx pos k p l → b ∈ nx p → pos p < pos b → Wk nx pos k b (b :: l)
 | ret {k p b : Nat} {l : List Nat} : Wk nx pos k p l → b ∈ nx p → Wk nx pos (k + 1) b (b :: l)
inductive Bu (nx : Nat → List Nat) (pos : Nat → Nat) (a : Nat) : Nat → Prop
 | refl : Bu nx pos a a
 | step {p b : Nat} : Bu nx pos a p → b ∈ nx p → pos p < pos b → Bu nx pos a b
def Dom (nx : Nat → List Nat) (a b : Nat) : Prop := ∀ l, Path nx b l → a ∈ l
def ME (nx : Nat → List Nat) (pos : Nat → Nat) (k a b : Nat) : Prop := ∀ l, Wk nx pos k b l → a ∈ l
inductive bR (D : List Int) : Nat → Nat → Prop
 | self (b : Nat) : bR D b b
 | up {b a x : Nat} : D.getD b (-1) = (a : Int) → bR D a x → bR D b x
theorem Wk.path {nx : Nat → List Nat} {pos : Nat → Nat} {k b : Nat} {l : List Nat} (h : Wk nx pos k b l) : Path nx b l := by
 induction h with
 | nil k => exact .nil
 | fwd _ h1 _ ih => exact .step ih h1
 | ret _ h1 ih => exact .step ih h1
theorem Wk.more {nx : Nat → List Nat} {pos : Nat → Nat} {k b : Nat} {l : List Nat} (h : Wk nx pos k b l) : ∀ {m : Nat}, k ≤ m → Wk nx pos m b l := by
 induction h with
 | nil k => intro m _; exact .nil m
 | fwd _ h1 h2 ih => intro m hm; exact .fwd (ih hm) h1 h2
 | ret _ h1 ih =>
  intro m hm
  obtain ⟨j, rfl⟩ : ∃ j, m = j + 1 := ⟨m - 1, by omega⟩
  exact .ret (ih ahU) h1
theorem Wk.head {nx : Nat → List Nat} {pos : Nat → Nat} {k b : Nat} {l : List Nat} (h : Wk nx pos k b l) : b ∈ l := by cases h <;> simp
theorem Path.head {nx : Nat → List Nat} {b : Nat} {l : List Nat} (h : Path nx b l) : b ∈ l := by cases h <;> simp
theorem Path.zero {nx : Nat → List Nat} {b : Nat} {l : List Nat} (h : Path nx b l) : 0 ∈ l := by
 induction h with
 | nil => simp
 | step _ _ ih => exact List.mem_cons_of_mem _ ih
theorem Path.cut {nx : Nat → List Nat} {b x : Nat} {l : List Nat} (h : Path nx b l) (hx : x ∈ l) : ∃ l', Path nx x l' ∧ (∀ z ∈ l', z ∈ l) ∧ (l.Nodup → l'.Nodup) := by
 induction h with
 | nil =>
  obtain rfl : x = 0 := by simpa using hx
  exact ⟨[0], .nil, fun _ h => h, fun h => h⟩
 | @step p b l h1 h2 ih =>
  rcases List.mem_cons.1 hx with rfl | hx
  ·exact ⟨_, .step h1 h2, fun _ h => h, fun h => h⟩
  ·obtain ⟨l', h3, h4, h5⟩ := ih hx
   exact ⟨l', h3, fun z hz => List.mem_cons_of_mem _ (h4 z hz), fun hn => h5 (List.nodup_cons.1 hn).2⟩
theorem Wk.cut {nx : Nat → List Nat} {pos : Nat → Nat} {k b x : Nat} {l : List Nat} (h : Wk nx pos k b l) (hx : x ∈ l) : ∃ l', Wk nx pos k x l' ∧ ∀ z ∈ l', z ∈ l := by
 induction h with
 | nil k =>
  obtain rfl : x = 0 := by simpa using hx
  exact ⟨[0], .nil k, fun _ h => h⟩
 | @fwd k p b l h1 h2 h3 ih =>
  rcases List.mem_cons.1 hx with rfl | hx
  ·exact ⟨_, .fwd h1 h2 h3, fun _ h => h⟩
  ·obtain ⟨l', h4, h5⟩ := ih hx
   exact ⟨l', h4, fun z hz => List.mem_cons_of_mem _ (h5 z hz)⟩
 | @ret k p b l h1 h2 ih =>
  rcases List.mem_cons.1 hx with rfl | hx
  ·exact ⟨_, .ret h1 h2, fun _ h => h⟩
  ·obtain ⟨l', h4, h5⟩ := ih hx
   exact ⟨l', h4.more (Nat.le_succ _), fun z hz => List.mem_cons_of_mem _ (h5 z hz)⟩
theorem Path.simple {nx : Nat → List Nat} {b : Nat} {l : List Nat} (h : Path nx b l) : ∃ l', Path nx b l' ∧ l'.Nodup ∧ ∀ z ∈ l', z ∈ l := by
 induction h with
 | nil => exact ⟨[0], .nil, by simp, fun _ h => h⟩
 | @step p b l h1 h2 ih =>
  obtain ⟨l', h3, h4, h5⟩ := ih
  by_cases hb : b ∈ l'
  ·obtain ⟨l2, h6, h7, h8⟩ := h3.cut hb
   exact ⟨l2, h6, h8 h4, fun z hz => List.mem_cons_of_mem _ (h5 z (h7 z hz))⟩
  ·exact ⟨b :: l', .step h3 h2, List.nodup_cons.2 ⟨hb, h4⟩, fun z hz => by
    rcases List.mem_cons.1 hz with rfl | hz
    ·exact List.mem_cons_self
    ·exact List.mem_cons_of_mem _ (h5 z hz)⟩
theorem Path.wk {nx : Nat → List Nat} (pos : Nat → Nat) {b : Nat} {l : List Nat} (h : Path nx b l) : Wk nx pos l.length b l := by
 induction h with
 | nil => exact .nil _
 | step _ h1 ih => exact .ret ih h1
theorem fy : ∀ {n : Nat} {l : List Nat}, l.Nodup → (∀ x ∈ l, x < n) → l.length ≤ n
 | 0, l, _, h => by
  cases l with
  | nil => simp
  | cons a l => exact absurd (h a ahZ) ahU
 | n + 1, l, hn, h => by
  have h1 : (l.filter (· ≠ n)).length ≤ n := fy (hn.filter _) fun x hx => by
   have := List.mem_filter.1 hx
   have h2 := h x this.1
   have h3 : x ≠ n := by simpa using this.2
   omega
  have h2 : (l.filter (· = n)).length ≤ 1 := by
   have h3 : ∀ y ∈ l.filter (· = n), y = n := fun y hy => by simpa using (List.mem_filter.1 hy).2
   have h4 := hn.filter (fun x => decide (x = n))
   match hm : l.filter (· = n) with
   | [] => simp
   | [a] => simp
   | a :: b :: m =>
    rw [hm] at h3 h4
    have := h3 a ahZ
    have := h3 b ahZ
    simp at h4
    omega
  have h3 := List.length_eq_countP_add_countP (l := l) (fun x => decide (x = n))
  rw [List.countP_eq_length_filter, List.countP_eq_length_filter] at h3
  have h4 : (l.filter (fun x => decide ¬decide (x = n) = true)).length = (l.filter (· ≠ n)).length := by congr 1; apply List.filter_congr; simp
  omega
structure Gr (n : Nat) (nx : Nat → List Nat) (ord : List Nat) (pos : Nat → Nat) : Prop where
 n0 : 0 < n
 z : ord[0]? = some 0
 lt : ∀ b ∈ ord, b < n
 at_ : ∀ i b, ord[i]? = some b → pos b = i
 closed : ∀ p ∈ ord, ∀ b ∈ nx p, b ∈ ord
 tree : ∀ b ∈ ord, b ≠ 0 → ∃ p ∈ ord, b ∈ nx p ∧ pos p < pos b
section
variable {n : Nat} {nx : Nat → List Nat} {ord : List Nat} {pos : Nat → Nat} {D : List Int}
theorem Gr.zero (g : Gr n nx ord pos) : 0 ∈ ord := List.mem_of_getElem? g.z
theorem Gr.mem (g : Gr n nx ord pos) {b : Nat} {l : List Nat} (h : Path nx b l) : b ∈ ord ∧ ∀ x ∈ l, x ∈ ord := by
 induction h with
 | nil => exact ⟨g.zero, fun x hx => by
   obtain rfl : x = 0 := by simpa using hx
   exact g.zero⟩
 | @step p b l h1 h2 ih =>
  have := g.closed p ih.1 _ h2
  exact ⟨this, fun x hx => by
   rcases List.mem_cons.1 hx with rfl | hx
   ·exact this
   ·exact ih.2 x hx⟩
theorem Gr.idx (g : Gr n nx ord pos) {b : Nat} (hb : b ∈ ord) : ord[pos b]? = some b := by
 obtain ⟨i, hi⟩ := List.mem_iff_getElem?.1 hb
 rw [g.at_ i b hi]; exact hi
theorem Gr.inj (g : Gr n nx ord pos) {a b : Nat} (ha : a ∈ ord) (hb : b ∈ ord) (h : pos a = pos b) : a = b := by
 have h1 := g.idx ha
 have h2 := g.idx hb
 rw [h, h2] at h1
 exact (Option.some.inj h1).symm
theorem Gr.Dz (g : Gr n nx ord pos) : pos 0 = 0 := g.at_ 0 0 g.z
theorem Gr.reach (g : Gr n nx ord pos) : ∀ (i : Nat) {b : Nat}, b ∈ ord → pos b ≤ i → ∃ l, Path nx b l
 | i, b, hb, hi => by
  by_cases h0 : b = 0
  ·subst h0; exact ⟨_, .nil⟩
  ·obtain ⟨p, h1, h2, h3⟩ := g.tree b hb h0
   match i with
   | 0 => omega
   | i + 1 =>
    obtain ⟨l, hl⟩ := g.reach i h1 ahU
    exact ⟨_, .step hl h2⟩
theorem Gr.path (g : Gr n nx ord pos) {b : Nat} (hb : b ∈ ord) : ∃ l, Path nx b l := g.reach _ hb (Nat.le_refl _)
theorem Gr.Tz (g : Gr n nx ord pos) {k a b : Nat} (hk : n ≤ k) : ME nx pos k a b ↔ Dom nx a b := by
 constructor
 ·intro h l hl
  obtain ⟨l', h1, h2, h3⟩ := hl.simple
  have h4 := fy h2 fun x hx => g.lt x ((g.mem h1).2 x hx)
  exact h3 a (h l' ((h1.wk pos).more ahU))
 ·exact fun h l hl => h l hl.path
theorem Bu.le {a b : Nat} (h : Bu nx pos a b) : pos a ≤ pos b := by
 induction h with
 | refl => exact Nat.le_refl _
 | step _ _ h2 ih => omega
theorem Bu.trans {a b c : Nat} (h : Bu nx pos a b) (k : Bu nx pos b c) : Bu nx pos a c := by
 induction k with
 | refl => exact h
 | step _ h1 h2 ih => exact .step ih h1 h2
theorem Bu.path {b y : Nat} {l : List Nat} (h : Bu nx pos b y) (hl : Path nx b l) : ∃ l', Path nx y l' ∧ ∀ z ∈ l', z ∈ l ∨ pos b ≤ pos z := by
 induction h with
 | refl => exact ⟨l, hl, fun z hz => .inl hz⟩
 | @step p y h1 h2 h3 ih =>
  obtain ⟨l', h4, h5⟩ := ih
  refine ⟨_, .step h4 h2, fun z hz => ?_⟩
  rcases List.mem_cons.1 hz with rfl | hz
  ·have := h1.le; exact .inr ahU
  ·exact h5 z hz
theorem Dom.Ow {x b y : Nat} (h : Dom nx x y) (hs : Bu nx pos b y) (hp : pos x < pos b) : Dom nx x b := fun l hl => by
 obtain ⟨l', h1, h2⟩ := hs.path hl
 rcases h2 x (h l' h1) with h3 | h3
 ·exact h3
 ·omega
def jf (D : List Int) (b : Nat) : Prop := b = 0 ∨ 0 ≤ D.getD b (-1)
structure TI (n : Nat) (nx : Nat → List Nat) (ord : List Nat) (pos : Nat → Nat) (D : List Int) : Prop where
 len : D.length = n
 z : D.getD 0 (-1) = -1
 ge : ∀ b, -1 ≤ D.getD b (-1)
 up : ∀ b a : Nat, D.getD b (-1) = (a : Int) → b ∈ ord ∧ a ∈ ord ∧ pos a < pos b ∧ jf D a ∧ Bu nx pos a b
 over : ∀ b ∈ ord, jf D b → ∀ x, Dom nx x b → bR D b x
theorem bR.trans {a b c : Nat} (h : bR D a b) (k : bR D b c) : bR D a c := by
 induction h with
 | self => exact k
 | up h1 _ ih => exact .up h1 (ih k)
theorem TI.Ka (t : TI n nx ord pos D) {b x : Nat} (h : bR D b x) : Bu nx pos x b ∧ (jf D b → jf D x) ∧ (b ∈ ord → x ∈ ord) ∧ (b ≠ x → pos x < pos b) := by
 induction h with
 | self => exact ⟨.refl, id, id, fun h => absurd rfl h⟩
 | @up b a x h1 h2 ih =>
  obtain ⟨c1, c2, c3, c4, c5⟩ := t.up _ _ h1
  exact ⟨ih.1.trans c5, fun _ => ih.2.1 c4, fun _ => ih.2.2.1 c2, fun _ => by have := ih.1.le; omega⟩
theorem TI.le (t : TI n nx ord pos D) {b x : Nat} (h : bR D b x) : pos x ≤ pos b := (t.Ka h).1.le
theorem bR.zero (t : TI n nx ord pos D) {x : Nat} (h : bR D 0 x) : x = 0 := by
 cases h with
 | self => rfl
 | up h1 _ => rw [t.z] at h1; omega
theorem bR.step {b a x : Nat} (h : D.getD b (-1) = (a : Int)) : bR D b x ↔ x = b ∨ bR D a x := by
 constructor
 ·intro k
  cases k with
  | self => exact .inl rfl
  | up h1 h2 => rw [h] at h1; obtain rfl := Int.ofNat.inj h1; exact .inr h2
 ·rintro (rfl | k)
  ·exact .self _
  ·exact .up h k
theorem bR.line {y b x : Nat} (h : bR D y b) (k : bR D y x) : bR D b x ∨ bR D x b := by
 induction h with
 | self => exact .inl k
 | @up y a b h1 h2 ih =>
  rcases (bR.step h1).1 k with rfl | k
  ·exact .inr (.up h1 h2)
  ·exact ih k
def Y5 (nx : Nat → List Nat) (D : List Int) (b c : Nat) : Prop := ∀ x, bR D c x ↔ ∀ p, b ∈ nx p → jf D p → bR D p x
section
variable {D' : List Int} {b c : Nat}
theorem qH (hb : b < D.length) : (D.set b (c : Int)).getD b (-1) = c := by simp [List.getD, hb]
theorem jm {y : Nat} (h : y ≠ b) : (D.set b (c : Int)).getD y (-1) = D.getD y (-1) := by simp [List.getD, List.getElem?_set_ne (Ne.symm h)]
theorem bR.keep {y x : Nat} (h : bR D y x) (hn : ∀ z, bR D y z → bR D z x → z ≠ x → z ≠ b) : bR (D.set b (c : Int)) y x := by
 induction h with
 | self => exact .self _
 | @up y a x h1 h2 ih =>
  by_cases hx : y = x
  ·subst hx; exact .self _
  ·have h3 := hn y (.self _) (.up h1 h2) hx
   exact .up ((jm h3).trans h1) (ih fun z h4 h5 h6 => hn z (.up h1 h4) h5 h6)
theorem bR.back {y x : Nat} (h : bR (D.set b (c : Int)) y x) : bR D y x ∨ bR D y b ∧ bR (D.set b (c : Int)) b x := by
 induction h with
 | self => exact .inl (.self _)
 | @up y a x h1 h2 ih =>
  by_cases hy : y = b
  ·subst hy; exact .inr ⟨.self _, .up h1 h2⟩
  ·rw [jm hy] at h1
   rcases ih with ih | ⟨i1, i2⟩
   ·exact .inl (.up h1 ih)
   ·exact .inr ⟨.up h1 i1, i2⟩
end
theorem TI.keep (t : TI n nx ord pos D) {b c y x : Nat} (h : bR D y x) (hp : pos b ≤ pos x) : bR (D.set b (c : Int)) y x :=
 h.keep fun z _ h2 h3 => by
  have := (t.Ka h2).2.2.2 h3
  rintro rfl
  omega
theorem TI.low (t : TI n nx ord pos D) {b c y x : Nat} (h : bR D y x) (hp : pos y < pos b) : bR (D.set b (c : Int)) y x :=
 h.keep fun z h1 _ _ => by
  have := t.le h1
  rintro rfl
  omega
theorem qL {b c y : Nat} (h : jf D y) : jf (D.set b (c : Int)) y := by
 rcases h with h | h
 ·exact .inl h
 ·by_cases hy : y = b
  ·subst hy
   by_cases hb : y < D.length
   ·right; rw [qH hb]; omega
   ·rw [List.set_eq_of_length_le ahU]; exact .inr h
  ·right; rw [jm hy]; exact h
structure NI (nx : Nat → List Nat) (ord : List Nat) (pos : Nat → Nat) (D : List Int) (b c : Nat) : Prop where
 hb : b ∈ ord
 h0 : b ≠ 0
 QB : Y5 nx D b c
 prev : ∀ p ∈ ord, pos p < pos b → jf D p
theorem NI.tree (g : Gr n nx ord pos) (t : TI n nx ord pos D) {b c : Nat} (s : NI nx ord pos D b c) : ∃ p ∈ ord, b ∈ nx p ∧ pos p < pos b ∧ bR D p c := by
 obtain ⟨p, h1, h2, h3⟩ := g.tree b s.hb s.h0
 exact ⟨p, h1, h2, h3, (s.QB c).1 (.self _) p h2 (s.prev p h1 h3)⟩
theorem TI.step (g : Gr n nx ord pos) (t : TI n nx ord pos D) {b c : Nat} (s : NI nx ord pos D b c) : TI n nx ord pos (D.set b (c : Int)) := by
 obtain ⟨p, p1, p2, p3, p4⟩ := s.tree g t
 have hbl : b < D.length := by rw [t.len]; exact g.lt b s.hb
 have Te := t.le p4
 have hcb : pos c < pos b := by omega
 have Em : Bu nx pos c b := .step (t.Ka p4).1 p2 p3
 have SH : (D.set b (c : Int)).getD b (-1) = c := qH hbl
 have hcc : jf D c := (t.Ka p4).2.1 (s.prev p p1 p3)
 have Ty : ∀ x, Dom nx x b → bR (D.set b (c : Int)) b x := fun x hx => by
  by_cases hxb : x = b
  ·subst hxb; exact .self _
  ·refine .up SH (t.low ((s.QB x).2 fun q q1 q2 => ?_) hcb)
   by_cases hq : q ∈ ord
   ·refine t.over q hq q2 x fun l hl => ?_
    rcases List.mem_cons.1 (hx _ (.step hl q1)) with h | h
    ·exact absurd h hxb
    ·exact h
   ·rcases q2 with rfl | q2
    ·exact absurd g.zero hq
    ·exact absurd (t.up q _ (Int.toNat_of_nonneg q2).symm).1 hq
 refine ⟨by simp [t.len], ?_, fun y => ?_, fun y a h => ?_, fun y hy hp x hx => ?_⟩
 ·rw [jm (Ne.symm s.h0)]; exact t.z
 ·by_cases hy : y = b
  ·subst hy; rw [SH]; omega
  ·rw [jm hy]; exact t.ge y
 ·by_cases hy : y = b
  ·subst hy
   rw [SH] at h
   obtain rfl := Int.ofNat.inj h
   exact ⟨s.hb, (t.Ka p4).2.2.1 p1, hcb, qL hcc, Em⟩
  ·rw [jm hy] at h
   obtain ⟨h1, h2, h3, h4, h5⟩ := t.up y a h
   exact ⟨h1, h2, h3, qL h4, h5⟩
 ·by_cases hyb : y = b
  ·subst hyb; exact Ty x hx
  ·have hp' : jf D y := by
    rcases hp with hp | hp
    ·exact .inl hp
    ·rw [jm hyb] at hp; exact .inr hp
   have h1 := t.over y hy hp' x hx
   by_cases Lc : bR D y b
   ·rcases Lc.line h1 with h2 | h2
    ·by_cases hxb : b = x
     ·subst hxb; exact t.keep h1 (Nat.le_refl _)
     ·exact (t.keep Lc (Nat.le_refl _)).trans (Ty x (hx.Ow (t.Ka Lc).1 ((t.Ka h2).2.2.2 hxb)))
    ·exact t.keep h1 (t.le h2)
   ·exact h1.keep fun z h2 _ _ => by rintro rfl; exact Lc h2
def UF (nx : Nat → List Nat) (ord : List Nat) (pos : Nat → Nat) (D : List Int) (k i : Nat) : Prop :=
 ∀ y ∈ ord, jf D y → ∀ x, bR D y x → (pos y < i → ME nx pos k x y) ∧ (i ≤ pos y → ∃ j, k = j + 1 ∧ ME nx pos j x y)
theorem UF.step (g : Gr n nx ord pos) (t : TI n nx ord pos D) {b c k : Nat} (s : NI nx ord pos D b c) (hk : 0 < k → ∀ p ∈ ord, jf D p) (u : UF nx ord pos D k (pos b)) : UF nx ord pos (D.set b (c : Int)) k (pos b + 1) := by
 obtain ⟨p, p1, p2, p3, p4⟩ := s.tree g t
 have hbl : b < D.length := by rw [t.len]; exact g.lt b s.hb
 have SH : (D.set b (c : Int)).getD b (-1) = c := qH hbl
 have hcb : pos c < pos b := by have := t.le p4; omega
 have ofb : ∀ x, bR (D.set b (c : Int)) b x → ME nx pos k x b := fun x hx => by
  rcases (bR.step SH).1 hx with rfl | hx
  ·exact fun l hl => hl.head
  ·have hx : bR D c x := by
    rcases hx.back with h | ⟨h, _⟩
    ·exact h
    ·have := t.le h; omega
   have hx := (s.QB x).1 hx
   intro l hl
   cases hl with
   | nil => exact absurd rfl s.h0
   | @fwd _ q _ l h1 h2 h3 =>
    have hq := (g.mem h1.path).1
    have hp := s.prev q hq h3
    exact List.mem_cons_of_mem _ ((u q hq hp x (hx q h2 hp)).1 h3 l h1)
   | @ret k q _ l h1 h2 =>
    have hq := (g.mem h1.path).1
    have hp := hk ahU q hq
    by_cases h3 : pos q < pos b
    ·exact List.mem_cons_of_mem _ ((u q hq hp x (hx q h2 hp)).1 h3 l (h1.more (Nat.le_succ _)))
    ·obtain ⟨j, hj, h4⟩ := (u q hq hp x (hx q h2 hp)).2 ahU
     obtain rfl : k = j := by omega
     exact List.mem_cons_of_mem _ (h4 l h1)
 intro y hy hp x hx
 by_cases hyb : y = b
 ·subst hyb
  exact ⟨fun _ => ofb x hx, fun h => by omega⟩
 ·have hp' : jf D y := by
   rcases hp with hp | hp
   ·exact .inl hp
   ·rw [jm hyb] at hp; exact .inr hp
  have hne : pos y ≠ pos b := fun h => hyb (g.inj hy s.hb h)
  rcases hx.back with h | ⟨h1, h2⟩
  ·have := u y hy hp' x h
   exact ⟨fun h => this.1 ahU, fun h => this.2 ahU⟩
  ·have h3 := u y hy hp' b h1
   have h4 := ofb x h2
   refine ⟨fun h l hl => ?_, fun h => ?_⟩
   ·obtain ⟨l2, h5, h6⟩ := hl.cut (h3.1 ahU l hl)
    exact h6 x (h4 l2 h5)
   ·obtain ⟨j, rfl, h5⟩ := h3.2 ahU
    refine ⟨j, rfl, fun l hl => ?_⟩
    obtain ⟨l2, h6, h7⟩ := hl.cut (h5 l hl)
    exact h7 x (h4 l2 (h6.more (Nat.le_succ _)))
def Exact (nx : Nat → List Nat) (ord : List Nat) (D : List Int) : Prop := ∀ y ∈ ord, ∀ x, bR D y x ↔ Dom nx x y
theorem UF.exact (g : Gr n nx ord pos) (t : TI n nx ord pos D) {k i : Nat} (hn : n < k) (hall : ∀ p ∈ ord, jf D p) (u : UF nx ord pos D k i) : Exact nx ord D := fun y hy x => by
 refine ⟨fun h => ?_, fun h => t.over y hy (hall y hy) x h⟩
 have := u y hy (hall y hy) x h
 by_cases h1 : pos y < i
 ·exact (g.Tz ahU).1 (this.1 h1)
 ·obtain ⟨j, rfl, h2⟩ := this.2 ahU
  exact (g.Tz ahU).1 h2
theorem bR.antisymm (t : TI n nx ord pos D) {a b : Nat} (h : bR D a b) (k : bR D b a) : a = b := by
 by_cases hab : a = b
 ·exact hab
 ·have h1 := (t.Ka h).2.2.2 hab
  have h2 := (t.Ka k).2.2.2 (Ne.symm hab)
  omega
theorem Exact.same (g : Gr n nx ord pos) (t : TI n nx ord pos D) (he : Exact nx ord D) (hall : ∀ p ∈ ord, jf D p) {b c : Nat} (s : NI nx ord pos D b c) : D.getD b (-1) = c := by
 obtain ⟨p, p1, p2, p3, p4⟩ := s.tree g t
 rcases hall b s.hb with h0 | h0
 ·exact absurd h0 s.h0
 obtain ⟨a, ha⟩ : ∃ a : Nat, D.getD b (-1) = (a : Int) := ⟨_, (Int.toNat_of_nonneg h0).symm⟩
 obtain ⟨c1, c2, c3, c4, c5⟩ := t.up _ _ ha
 have hca : bR D c a := (s.QB a).2 fun q q1 q2 => by
  by_cases hq : q ∈ ord
  ·refine (he q hq a).2 fun l hl => ?_
   rcases List.mem_cons.1 ((he b s.hb a).1 (.up ha (.self _)) _ (.step hl q1)) with h | h
   ·subst h; omega
   ·exact h
  ·rcases q2 with rfl | q2
   ·exact absurd g.zero hq
   ·exact absurd (t.up q _ (Int.toNat_of_nonneg q2).symm).1 hq
 have hbc : bR D b c := (he b s.hb c).2 fun l hl => by
  cases hl with
  | nil => exact absurd rfl s.h0
  | @step q _ l h1 h2 =>
   have hq := (g.mem h1).1
   exact List.mem_cons_of_mem _ ((he q hq c).1 ((s.QB c).1 (.self _) q h2 (hall q hq)) l h1)
 have hcb : c ≠ b := by rintro rfl; have := t.le p4; omega
 have hac : bR D a c := by
  rcases (bR.step ha).1 hbc with h | h
  ·exact absurd h hcb
  ·exact h
 rw [ha, hac.antisymm t hca]
theorem wq (g : Gr n nx ord pos) (t : TI n nx ord pos D) (hall : ∀ p ∈ ord, jf D p) (hf : ∀ b ∈ ord, b ≠ 0 → ∃ c : Nat, D.getD b (-1) = (c : Int) ∧ Y5 nx D b c) : Exact nx ord D := fun y hy x => by
 refine ⟨fun h l hl => ?_, fun h => t.over y hy (hall y hy) x h⟩
 induction hl generalizing x with
 | nil => simp [h.zero t]
 | @step p b l h1 h2 ih =>
  by_cases h0 : b = 0
  ·subst h0; simp [h.zero t]
  ·obtain ⟨c, hc, hn⟩ := hf b hy h0
   have hp := (g.mem h1).1
   rcases (bR.step hc).1 h with rfl | h
   ·exact List.mem_cons_self
   ·exact List.mem_cons_of_mem _ (ih hp x ((hn x).1 h p h2 (hall p hp)))
theorem UF.first (g : Gr n nx ord pos) (hD : ∀ b, D.getD b (-1) = -1) : UF nx ord pos D 0 1 := fun y hy hp x hx => by
 rcases hp with rfl | hp
 ·have : x = 0 := by
   cases hx with
   | self => rfl
   | up h1 _ => rw [hD] at h1; omega
  subst this
  exact ⟨fun _ l hl => hl.head, fun h => by rw [g.Dz] at h; omega⟩
 ·rw [hD] at hp; omega
theorem TI.first (hl : D.length = n) (hD : ∀ b, D.getD b (-1) = -1) : TI n nx ord pos D := by
 refine ⟨hl, hD 0, fun b => by rw [hD]; omega, fun b a h => by rw [hD] at h; omega, fun b _ hp x hx => ?_⟩
 rcases hp with rfl | hp
 ·have := hx _ .nil
  obtain rfl : x = 0 := by simpa using this
  exact .self _
 ·rw [hD] at hp; omega
theorem UF.next {k : Nat} (g : Gr n nx ord pos) (u : UF nx ord pos D k ord.length) : UF nx ord pos D (k + 1) 1 := fun y hy hp x hx => by
 have h1 : pos y < ord.length := (List.getElem?_eq_some_iff.1 (g.idx hy)).1
 have h2 := (u y hy hp x hx).1 h1
 refine ⟨fun h => ?_, fun _ => ⟨k, rfl, h2⟩⟩
 obtain rfl : y = 0 := g.inj hy g.zero (by rw [g.Dz]; omega)
 intro l hl
 have h3 := h2 _ (.nil k)
 obtain rfl : x = 0 := by simpa using h3
 exact hl.head
theorem Exact.unique {D E : List Int} (g : Gr n nx ord pos) (t : TI n nx ord pos D) (s : TI n nx ord pos E) (h : Exact nx ord D) (k : Exact nx ord E) (hd : ∀ p ∈ ord, jf D p) (he : ∀ p ∈ ord, jf E p) : D = E := by
 have hlen : D.length = E.length := t.len.trans s.len.symm
 have key : ∀ b, D.getD b (-1) = E.getD b (-1) := fun b => by
  by_cases hb : b ∈ ord
  ·by_cases h0 : b = 0
   ·subst h0; rw [t.z, s.z]
   ·rcases hd b hb with h1 | h1
    ·exact absurd h1 h0
    rcases he b hb with h2 | h2
    ·exact absurd h2 h0
    obtain ⟨a, ha⟩ : ∃ a : Nat, D.getD b (-1) = (a : Int) := ⟨_, (Int.toNat_of_nonneg h1).symm⟩
    obtain ⟨c, hc⟩ : ∃ a : Nat, E.getD b (-1) = (a : Int) := ⟨_, (Int.toNat_of_nonneg h2).symm⟩
    have pa := (t.up _ _ ha).2.2.1
    have pc := (s.up _ _ hc).2.2.1
    have e1 : bR E b a := (k b hb a).2 ((h b hb a).1 (.up ha (.self _)))
    have e2 : bR D b c := (h b hb c).2 ((k b hb c).1 (.up hc (.self _)))
    have hab : a ≠ b := by rintro rfl; omega
    have hcb : c ≠ b := by rintro rfl; omega
    rcases (bR.step ha).1 e2 with e3 | e3
    ·exact absurd e3 hcb
    rcases (bR.step hc).1 e1 with e4 | e4
    ·exact absurd e4 hab
    have := t.le e3
    have := s.le e4
    have : a = c := g.inj (t.up _ _ ha).2.1 (s.up _ _ hc).2.1 ahU
    rw [ha, hc, this]
  ·rcases Int.lt_or_le (D.getD b (-1)) 0 with h1 | h1
   ·rcases Int.lt_or_le (E.getD b (-1)) 0 with h2 | h2
    ·have := t.ge b; have := s.ge b; omega
    ·exact absurd (s.up b _ (Int.toNat_of_nonneg h2).symm).1 hb
   ·exact absurd (t.up b _ (Int.toNat_of_nonneg h1).symm).1 hb
 apply List.ext_getElem hlen
 intro i h1 h2
 have := key i
 simpa [List.getD, List.getElem?_eq_getElem h1, List.getElem?_eq_getElem h2] using this
end
end
section
abbrev DS := List Bool × List Nat
def qA (nx : Nat → List Nat) : Nat → Nat → DS → DS
 | 0, _, s => s
 | f + 1, b, s =>
  let s1 := (nx b).foldl (fun s t => if s.1.getD t false = true then s else qA nx f t s) (s.1.set b true, s.2)
  (s1.1, s1.2 ++ [b])
def kf (nx : Nat → List Nat) (f : Nat) (l : List Nat) (s : DS) : DS := l.foldl (fun s t => if s.1.getD t false = true then s else qA nx f t s) s
theorem uV (nx : Nat → List Nat) (f b : Nat) (s : DS) : qA nx (f + 1) b s = ((kf nx f (nx b) (s.1.set b true, s.2)).1, (kf nx f (nx b) (s.1.set b true, s.2)).2 ++ [b]) := rfl
def unseen (s : List Bool) : Nat := s.countP (· = false)
structure zq (nx : Nat → List Nat) (ts : List Nat) (M : List Nat) (s s' : DS) : Prop where
 len : s'.1.length = s.1.length
 out : s'.2 = s.2 ++ M
 seen : ∀ x, s'.1[x]? = some true ↔ s.1[x]? = some true ∨ x ∈ M
 fresh : ∀ x ∈ M, s.1[x]? = some false
 nodup : M.Nodup
 closed : ∀ x ∈ M, ∀ t ∈ nx x, s'.1[t]? = some true
 tree : ∀ M1 x M2, M = M1 ++ x :: M2 → (∃ p ∈ M2, x ∈ nx p) ∨ x ∈ ts
theorem qI {s : List Bool} {x : Nat} (h : x < s.length) : s[x]? = some true ∨ s[x]? = some false := by
 rw [List.getElem?_eq_getElem h]
 cases s[x] <;> simp
theorem mo {s : List Bool} {x : Nat} : s.getD x false = true ↔ s[x]? = some true := by
 rw [List.getD]
 cases h : s[x]? with
 | none => simp
 | some v => cases v <;> simp
theorem zq.nil {nx : Nat → List Nat} {ts : List Nat} {s : DS} : zq nx ts [] s s := ⟨rfl, by simp, by simp, by simp, by simp, by simp, fun M1 x M2 h => by cases M1 <;> cases h⟩
theorem zq.trans {nx : Nat → List Nat} {ts M N : List Nat} {s s1 s2 : DS} (h : zq nx ts M s s1) (k : zq nx ts N s1 s2) : zq nx ts (M ++ N) s s2 := by
 refine ⟨k.len.trans h.len, by rw [k.out, h.out, List.append_assoc], fun x => ?_, fun x hx => ?_, ?_, fun x hx t ht => ?_, fun M1 x M2 he => ?_⟩
 ·rw [k.seen, h.seen, List.mem_append, or_assoc]
 ·rcases List.mem_append.1 hx with hx | hx
  ·exact h.fresh x hx
  ·have h1 := k.fresh x hx
   have h2 : x < s.1.length := by rw [← h.len]; exact (List.getElem?_eq_some_iff.1 h1).1
   rcases qI h2 with h3 | h3
   ·have h4 := (h.seen x).2 (.inl h3)
    rw [h1] at h4; cases h4
   ·exact h3
 ·refine List.nodup_append.2 ⟨h.nodup, k.nodup, fun a ha b hb => ?_⟩
  rintro rfl
  have h1 := (h.seen a).2 (.inr ha)
  rw [k.fresh a hb] at h1; cases h1
 ·rcases List.mem_append.1 hx with hx | hx
  ·exact (k.seen t).2 (.inl (h.closed x hx t ht))
  ·exact k.closed x hx t ht
 ·rcases List.append_eq_append_iff.1 he with ⟨a, ha, hb⟩ | ⟨a, ha, hb⟩
  ·exact k.tree a x M2 hb
  ·cases a with
   | nil => exact k.tree [] x M2 (by simpa using hb.symm)
   | cons y a =>
    simp only [List.cons_append, List.cons.injEq] at hb
    obtain ⟨rfl, rfl⟩ := hb
    rcases h.tree M1 x a ha with ⟨p, hp, h2⟩ | h2
    ·exact .inl ⟨p, List.mem_append_left _ hp, h2⟩
    ·exact .inr h2
theorem zq.more {nx : Nat → List Nat} {ts us M : List Nat} {s s1 : DS} (h : zq nx ts M s s1) (hu : ∀ x ∈ ts, x ∈ us) : zq nx us M s s1 :=
 ⟨h.len, h.out, h.seen, h.fresh, h.nodup, h.closed, fun M1 x M2 he => (h.tree M1 x M2 he).imp_right (hu x)⟩
theorem iN {s : List Bool} {b : Nat} (h : s[b]? = some false) : unseen s = unseen (s.set b true) + 1 := by
 obtain ⟨hb, hv⟩ := List.getElem?_eq_some_iff.1 h
 unfold unseen
 have e1 : s = s.take b ++ s[b] :: s.drop (b + 1) := by rw [List.getElem_cons_drop, List.take_append_drop]
 have e2 : s.set b true = s.take b ++ true :: s.drop (b + 1) := List.set_eq_take_append_cons_drop .. |>.trans (by rw [if_pos hb])
 rw [e2]
 conv => lhs; rw [e1]
 rw [List.countP_append, List.countP_append, List.countP_cons, List.countP_cons, hv]
 simp
 omega
theorem zq.unseen {nx : Nat → List Nat} {ts M : List Nat} {s s1 : DS} (h : zq nx ts M s s1) : unseen s1.1 ≤ unseen s.1 := by
 have key : ∀ (a b : List Bool), a.length = b.length → (∀ x : Nat, b[x]? = some true → a[x]? = some true) → Go.Proofs.YtlmgkipmfgijiaaGreatDoor.unseen a ≤ Go.Proofs.YtlmgkipmfgijiaaGreatDoor.unseen b := by
  intro a
  induction a with
  | nil => intro b _ _; exact Nat.zero_le _
  | cons x a ih =>
   intro b hl hh
   cases b with
   | nil => cases hl
   | cons y b =>
    have h1 := ih b aiO fun z hz => by have := hh (z + 1) (by simpa using hz); simpa using this
    have h2 := hh 0
    unfold Go.Proofs.YtlmgkipmfgijiaaGreatDoor.unseen at h1 ⊢
    rw [List.countP_cons, List.countP_cons]
    cases x <;> cases y <;> simp at h1 h2 ⊢ <;> omega
 exact key _ _ h.len fun x hx => (h.seen x).2 (.inl hx)
theorem Cq {n : Nat} {nx : Nat → List Nat} {f : Nat} (ih : ∀ (b : Nat) (s : DS), s.1.length = n → unseen s.1 ≤ f → s.1[b]? = some false → ∃ M, zq nx [b] (M ++ [b]) s (qA nx f b s)) : ∀ (ts : List Nat) (s0 : DS), (∀ t ∈ ts, t < n) → s0.1.length = n → unseen s0.1 ≤ f → ∃ M, zq nx ts M s0 (kf nx f ts s0) ∧ ∀ t ∈ ts, (kf nx f ts s0).1[t]? = some true := by
 intro ts
 induction ts with
 | nil => intro s0 _ _ _; exact ⟨[], .nil, by simp⟩
 | cons t ts ih2 =>
  intro s0 htn hl0 hu0
  have htt := htn t ahZ
  by_cases hs : s0.1.getD t false = true
  ·obtain ⟨M, h1, h2⟩ := ih2 s0 (fun x hx => htn x (List.mem_cons_of_mem _ hx)) hl0 hu0
   have e : kf nx f (t :: ts) s0 = kf nx f ts s0 := by unfold kf; rw [List.foldl_cons, if_pos hs]
   rw [e]
   refine ⟨M, h1.more fun x hx => List.mem_cons_of_mem _ hx, fun x hx => ?_⟩
   rcases List.mem_cons.1 hx with rfl | hx
   ·exact (h1.seen x).2 (.inl (mo.1 hs))
   ·exact h2 x hx
  ·have hs1 : s0.1[t]? = some false := by
    rcases qI (show t < s0.1.length by omega) with h | h
    ·exact absurd (mo.2 h) hs
    ·exact h
   obtain ⟨M, h1⟩ := ih t s0 hl0 hu0 hs1
   obtain ⟨N, h2, h3⟩ := ih2 (qA nx f t s0) (fun x hx => htn x (List.mem_cons_of_mem _ hx)) (h1.len.trans hl0) (Nat.le_trans h1.unseen hu0)
   have e : kf nx f (t :: ts) s0 = kf nx f ts (qA nx f t s0) := by unfold kf; rw [List.foldl_cons, if_neg hs]
   rw [e]
   refine ⟨(M ++ [t]) ++ N, (h1.more ahZ).trans (h2.more fun x hx => List.mem_cons_of_mem _ hx), fun x hx => ?_⟩
   rcases List.mem_cons.1 hx with rfl | hx
   ·exact (h2.seen x).2 (.inl ((h1.seen x).2 (.inr ahZ)))
   ·exact h3 x hx
theorem IE {n : Nat} {nx : Nat → List Nat} (hlt : ∀ b, b < n → ∀ t ∈ nx b, t < n) : ∀ (f b : Nat) (s : DS), s.1.length = n → unseen s.1 ≤ f → s.1[b]? = some false → ∃ M, zq nx [b] (M ++ [b]) s (qA nx f b s) := by
 intro f
 induction f with
 | zero =>
  intro b s _ hu hb
  have := iN hb
  omega
 | succ f ih =>
  intro b s hl hu hb
  have lu : b < n := by rw [← hl]; exact (List.getElem?_eq_some_iff.1 hb).1
  have VD := iN hb
  obtain ⟨M, h1, h2⟩ := Cq ih (nx b) (s.1.set b true, s.2) (hlt b lu) aiO (show Go.Proofs.YtlmgkipmfgijiaaGreatDoor.unseen (s.1.set b true) ≤ f by omega)
  rw [uV]
  have SJ : ∀ x : Nat, (s.1.set b true)[x]? = some true ↔ s.1[x]? = some true ∨ x = b := fun x => by
   by_cases hx : x = b
   ·subst hx; simp [(List.getElem?_eq_some_iff.1 hb).1]
   ·rw [List.getElem?_set_ne (Ne.symm hx)]; simp [hx]
  refine ⟨M, ⟨h1.len.trans ahZ, by rw [h1.out, List.append_assoc], fun x => ?_, fun x hx => ?_, ?_, fun x hx t ht => ?_, fun M1 x M2 he => ?_⟩⟩
  ·have := h1.seen x
   simp only at this ⊢
   rw [this, SJ, List.mem_append, List.mem_singleton, or_assoc, or_comm (a := x = b)]
  ·rcases List.mem_append.1 hx with hx | hx
   ·have h3 := h1.fresh x hx
    by_cases hxb : x = b
    ·subst hxb; exact hb
    ·simp only at h3; rwa [List.getElem?_set_ne (Ne.symm hxb)] at h3
   ·obtain rfl : x = b := by simpa using hx
    exact hb
  ·refine List.nodup_append.2 ⟨h1.nodup, by simp, fun a ha c hc => ?_⟩
   obtain rfl : c = b := by simpa using hc
   rintro rfl
   have := h1.fresh a ha
   rw [((SJ a).2 (.inr rfl))] at this
   cases this
  ·rcases List.mem_append.1 hx with hx | hx
   ·exact h1.closed x hx t ht
   ·obtain rfl : x = b := by simpa using hx
    exact h2 t ht
  ·rcases List.append_eq_append_iff.1 he with ⟨a, ha, hc⟩ | ⟨a, ha, hc⟩
   ·cases a with
    | nil =>
     simp only [List.nil_append, List.cons.injEq] at hc
     exact .inr (by simp [hc.1])
    | cons y a => simp at hc
   ·cases a with
    | nil =>
     simp only [List.nil_append, List.cons.injEq] at hc
     exact .inr (by simp [hc.1])
    | cons y a =>
     simp only [List.cons_append, List.cons.injEq] at hc
     obtain ⟨rfl, rfl⟩ := hc
     rcases h1.tree M1 x a ha with ⟨p, hp, h3⟩ | h3
     ·exact .inl ⟨p, List.mem_append_left _ hp, h3⟩
     ·exact .inl ⟨b, by simp, h3⟩
theorem LP {n : Nat} {nx : Nat → List Nat} (hlt : ∀ b, b < n → ∀ t ∈ nx b, t < n) (f : Nat) (ts : List Nat) (s : DS) (ht : ∀ t ∈ ts, t < n) (hl : s.1.length = n) (hu : unseen s.1 ≤ f) : ∃ M, zq nx ts M s (kf nx f ts s) ∧ ∀ t ∈ ts, (kf nx f ts s).1[t]? = some true :=
 Cq (IE hlt f) ts s ht hl hu
structure DI (n : Nat) (s : DS) : Prop where
 len : s.1.length = n
 nodup : s.2.Nodup
 mem : ∀ x ∈ s.2, s.1[x]? = some true
theorem DI.le {n : Nat} {s : DS} (h : DI n s) : s.2.length ≤ n := fy h.nodup fun x hx => by
 have := (List.getElem?_eq_some_iff.1 (h.mem x hx)).1
 rwa [h.len] at this
theorem DI.step {n : Nat} {nx : Nat → List Nat} {ts M : List Nat} {s s' : DS} (h : DI n s) (k : zq nx ts M s s') : DI n s' := by
 refine ⟨k.len.trans h.len, ?_, fun x hx => ?_⟩
 ·rw [k.out]
  refine List.nodup_append.2 ⟨h.nodup, k.nodup, fun a ha b hb => ?_⟩
  rintro rfl
  have h1 := h.mem a ha
  rw [k.fresh a hb] at h1; cases h1
 ·rw [k.out] at hx
  rw [k.seen]
  exact (List.mem_append.1 hx).imp (h.mem x) id
theorem DI.set {n : Nat} {s : DS} (h : DI n s) (b : Nat) : DI n (s.1.set b true, s.2) := ⟨by simp [h.len], h.nodup, fun x hx => by
 have h1 := h.mem x hx
 by_cases e : b = x
 ·subst e; simp [(List.getElem?_eq_some_iff.1 h1).1]
 ·simp only; rw [List.getElem?_set_ne e]; exact h1⟩
theorem EG {nx : Nat → List Nat} {f j t : Nat} {ts : List Nat} {s : DS} (h : ts[j]? = some t) : kf nx f (ts.take (j + 1)) s = if (kf nx f (ts.take j) s).1.getD t false = true then kf nx f (ts.take j) s else qA nx f t (kf nx f (ts.take j) s) := by
 unfold kf
 rw [List.take_add_one, h]
 simp [List.foldl_append]
def dK (n : Nat) (nx : Nat → List Nat) : List Nat := (qA nx n 0 (List.replicate n false, [])).2.reverse
def fO (n : Nat) (nx : Nat → List Nat) (b : Nat) : Nat := (dK n nx).idxOf b
theorem gA (n : Nat) : unseen (List.replicate n false) = n := by unfold unseen; rw [List.countP_replicate]; simp
theorem qg {n : Nat} {nx : Nat → List Nat} (hn : 0 < n) (hlt : ∀ b, b < n → ∀ t ∈ nx b, t < n) : Gr n nx (dK n nx) (fO n nx) ∧ (dK n nx).Nodup := by
 obtain ⟨M, h⟩ := IE hlt n 0 (List.replicate n false, []) ahZ (by rw [gA]; exact Nat.le_refl _) (by simp [hn])
 have ho : dK n nx = 0 :: M.reverse := by unfold dK; rw [h.out]; simp
 have hnd : (dK n nx).Nodup := by rw [ho, ← List.reverse_concat]; unfold List.Nodup; rw [List.pairwise_reverse]; exact h.nodup.imp Ne.symm
 have hmem : ∀ x, x ∈ dK n nx ↔ x ∈ M ++ [0] := fun x => by rw [ho]; simp [or_comm]
 have hs : ∀ x, (qA nx n 0 (List.replicate n false, [])).1[x]? = some true ↔ x ∈ M ++ [0] := fun x => by
  rw [h.seen]
  constructor
  ·rintro (h1 | h1)
   ·rw [List.getElem?_replicate] at h1
    split at h1 <;> simp at h1
   ·exact h1
  ·exact .inr
 have hat : ∀ i b, (dK n nx)[i]? = some b → fO n nx b = i := fun i b hb => by
  obtain ⟨h1, rfl⟩ := List.getElem?_eq_some_iff.1 hb
  exact hnd.idxOf_getElem i h1
 refine ⟨⟨hn, by rw [ho]; rfl, fun b hb => ?_, hat, fun p hp b hb => ?_, fun b hb h0 => ?_⟩, hnd⟩
 ·have := h.fresh b ((hmem b).1 hb)
  have := (List.getElem?_eq_some_iff.1 this).1
  simpa using this
 ·exact (hmem b).2 ((hs b).1 (h.closed p ((hmem p).1 hp) b hb))
 ·have hb' := (hmem b).1 hb
  obtain ⟨M1, M2, he⟩ := List.append_of_mem hb'
  rcases h.tree M1 b M2 he with ⟨p, hp, h1⟩ | h1
  ·have XW : p ∈ dK n nx := (hmem p).2 (by rw [he]; simp [hp])
   refine ⟨p, XW, h1, ?_⟩
   have ho2 : dK n nx = M2.reverse ++ b :: M1.reverse := by
    have : dK n nx = (M ++ [0]).reverse := by rw [ho]; simp
    rw [this, he]; simp
   have hpb : p ∈ M2.reverse := by simpa using hp
   unfold fO
   rw [ho2, List.idxOf_append, if_pos hpb]
   have lu : b ∉ M2.reverse := fun hm => by
    rw [ho2] at hnd
    exact (List.nodup_append.1 hnd).2.2 b hm b ahZ rfl
   rw [List.idxOf_append, if_neg lu, List.idxOf_cons_self]
   have := List.idxOf_lt_length_iff.2 hpb
   omega
  ·exact absurd (by simpa using h1) h0
end
section
open Go.RowKit
def cM (G : List aU) (b : Nat) : List Nat := (G.getD b ⟨0, 0, []⟩).nx.map Int.toNat
def cm (l : List Nat) : List Int := l.map fun (x : Nat) => (x : Int)
def qU (s : List Bool) : List Value := s.map fun x => .bool x
structure GB (G : List aU) (n : Nat) : Prop where
 len : G.length = n
 le : n ≤ 5000
 two : ∀ (b : Nat) (x : aU), G[b]? = some x → x.nx.length ≤ 5000
 nx : ∀ (b : Nat) (x : aU), G[b]? = some x → ∀ s ∈ x.nx, 0 ≤ s ∧ s < (n : Int)
theorem GB.lt {G : List aU} {n : Nat} (h : GB G n) : ∀ b, b < n → ∀ t ∈ cM G b, t < n := fun b hb t ht => by
 have hb' : b < G.length := by rw [h.len]; exact hb
 have hx : G[b]? = some G[b] := List.getElem?_eq_getElem hb'
 unfold cM at ht
 rw [List.getD, hx] at ht
 obtain ⟨s, hs, rfl⟩ := List.mem_map.1 ht
 have := h.nx b _ hx s hs
 omega
theorem vL {G : List aU} {b : Nat} {x : aU} (hx : G[b]? = some x) : cM G b = x.nx.map Int.toNat := by unfold cM; rw [List.getD, hx]; rfl
structure FK (w wr : World) (sq sb gq fq lq n : Nat) (bv pv : Value) (s : DS) : Prop where
 aD : Below w.heap.size w wr
 Vw : wr.heap[sq]? = some (.cells #[.slice (some ⟨sb, 0, none⟩) n n] 55 (0, 0))
 La : wr.heap[gq]? = some (.cells #[bv, pv] 31 (0, 0))
 Lb : wr.heap[fq]? = some (.cells #[.func (.func 66) #[] #[.pointer (some ⟨sq, 0, none⟩), .pointer (some ⟨gq, 0, none⟩), .pointer (some ⟨fq, 0, none⟩), .pointer (some ⟨lq, 0, none⟩)]] 152 (0, 0))
 Xx : ∃ v, wr.heap[lq]? = some (.cells #[v] 38 (0, 0)) ∧ wr.ownsRow w.heap.size 3 1 v s.2.length (dU (cm s.2))
 row : wr.ownsRow w.heap.size 4 1 (.slice (some ⟨sb, 0, none⟩) n n) n (qU s.1)
 hi : w.heap.size ≤ sq ∧ w.heap.size ≤ gq ∧ w.heap.size ≤ fq ∧ w.heap.size ≤ lq
section
variable {w wr : World} {sq sb gq fq lq n : Nat} {bv pv : Value} {s : DS}
theorem FK.cell (h : FK w wr sq sb gq fq lq n bv pv s) (hl : s.1.length = n) {b : Nat} (hb : b < n) : wr.cell? ⟨sb, b, none⟩ = some (.bool (s.1.getD b false)) ∧ wr.frozen? ⟨sb, b, none⟩ = false := by
 refine ⟨?_, h.row.frozenAt _⟩
 rw [h.row.cellAt _ ahU, qU, List.getElem?_map, List.getD, List.getElem?_eq_getElem (by omega : b < s.1.length)]
 rfl
theorem FK.set (h : FK w wr sq sb gq fq lq n bv pv s) (b : Nat) : FK w (wr.setCell ⟨sb, b, none⟩ (.bool true)) sq sb gq fq lq n bv pv (s.1.set b true, s.2) := by
 have hne : ∀ (q : Nat) (cs : Array Value) (t : TypeId) (fr : Nat × Nat), wr.heap[q]? = some (.cells cs t fr) → t ≠ 4 → q ≠ sb := fun q cs t fr hq ht e => dZ hq h.row ht ain
 have Em := h.row.lt sb rfl
 have keep : ∀ (q : Nat) (cs : Array Value) (t : TypeId) (fr : Nat × Nat), wr.heap[q]? = some (.cells cs t fr) → t ≠ 4 → (wr.setCell ⟨sb, b, none⟩ (.bool true)).heap[q]? = some (.cells cs t fr) := fun q cs t fr hq ht => by
  rw [Below.heap_setCell _ _ _ _ (hne q cs t fr hq ht)]; exact hq
 obtain ⟨v, h1, h2⟩ := h.Xx
 refine ⟨h.aD.setCell (p := ⟨sb, b, none⟩) Em.1 _, keep _ _ _ _ h.Vw ahW, keep _ _ _ _ h.La ahW, keep _ _ _ _ h.Lb ahW, ⟨v, keep _ _ _ _ h1 ahW, ?_⟩, ?_, h.hi⟩
 ·refine h2.kept (aQ wr sb b (.bool true)) ?_
  cases hv : v.ownBlock with
  | none => exact .inl rfl
  | some q => exact .inr fun e => cV h2 h.row ahW q hv ain
 ·have := (h.row.stored b (.bool true)).1
  simpa [qU, List.map_set] using this
theorem FK.app {v v' : Value} {w2 W' : World} {b : Nat} (h : FK w wr sq sb gq fq lq n bv pv s) (h1 : wr.heap[lq]? = some (.cells #[v] 38 (0, 0))) (h2 : wr.ownsRow w.heap.size 3 1 v s.2.length (dU (cm s.2))) (hb : Below wr.heap.size wr w2) (hg : w2.grownBy W' v.ownBlock)
  (hown : W'.ownsRow w.heap.size 3 1 v' (s.2.length + 1) (dU (cm s.2) ++ [.int .i64 (b : Int)])) : FK w (W'.setCell ⟨lq, 0, none⟩ v') sq sb gq fq lq n bv pv (s.1, s.2 ++ [b]) := by
 have keep : ∀ (q : Nat) (cs : Array Value) (t : TypeId) (fr : Nat × Nat), wr.heap[q]? = some (.cells cs t fr) → t ≠ 3 → W'.heap[q]? = some (.cells cs t fr) := fun q cs t fr hq ht => by
  have hl := (Array.getElem?_eq_some_iff.1 hq).1
  have := hb.size
  rw [hg.block q ahU (dZ hq h2 ht), hb.block q hl]; exact hq
 have k1 := keep _ _ _ _ h1 ahW
 have other : ∀ (q : Nat) (cs : Array Value) (t : TypeId) (fr : Nat × Nat), W'.heap[q]? = some (.cells cs t fr) → t ≠ 38 → (W'.setCell ⟨lq, 0, none⟩ v').heap[q]? = some (.cells cs t fr) := fun q cs t fr hq ht => by
  rw [Below.heap_setCell _ _ _ _ (by rintro rfl; rw [k1] at hq; cases hq; exact ht rfl)]; exact hq
 have G := grown_of hb hg
 have wY := G.size
 have j6 : ∀ k, v.ownBlock = some k → w.heap.size ≤ k := fun k hk => (h2.lt k hk).1
 have row' : W'.ownsRow w.heap.size 4 1 (.slice (some ⟨sb, 0, none⟩) n n) n (qU s.1) := h.row.kept G (.inr (fun e => cV h.row h2 ahW sb rfl e.symm))
 have S := aQ W' lq 0 v'
 refine ⟨(h.aD.grown G h.aD.size j6).grown S (by have := h.aD.size; omega) (fun k hk => by cases hk; exact h.hi.2.2.2), other _ _ _ _ (keep _ _ _ _ h.Vw ahW) ahW, other _ _ _ _ (keep _ _ _ _ h.La ahW) ahW, other _ _ _ _ (keep _ _ _ _ h.Lb ahW) ahW, ⟨v', one_setCell k1, ?_⟩, row'.kept S (.inr (fun e => dZ k1 row' ahW e.symm)), h.hi⟩
 have e : dU (cm (s.2 ++ [b])) = dU (cm s.2) ++ [.int .i64 (b : Int)] := by simp [dU, cm]
 rw [show (s.2 ++ [b]).length = s.2.length + 1 by simp, e]
 exact hown.kept S (.inr (fun e => dZ k1 hown ahW e.symm))
end
theorem AU (bv pv : Value) (G : List aU) (n : Nat) (w : World) (sq sb gq fq lq : Nat) (HG : fL w bv G) (HB : GB G n) : ∀ (f b : Nat) (s : DS) (wr : World), FK w wr sq sb gq fq lq n bv pv s → DI n s → unseen s.1 ≤ f → s.1[b]? = some false →
  Calls Tryz.prog 66 #[.int .i64 (b : Int), .pointer (some ⟨sq, 0, none⟩), .pointer (some ⟨gq, 0, none⟩), .pointer (some ⟨fq, 0, none⟩), .pointer (some ⟨lq, 0, none⟩)] wr fun e w' => e = .returned (.tuple #[]) ∧ FK w w' sq sb gq fq lq n bv pv (qA (cM G) f b s) := by
 obtain ⟨A, cap, rfl, hc1, hc2⟩ := HG.slice
 have he : ∀ (args : Array Value) (w : World), (callFunc 66 args).run Tryz.prog w = .ok (.enter 66 args) w := fun _ _ => by kernel_rfl
 intro f
 induction f with
 | zero =>
  intro b s wr _ _ hu hb
  have := iN hb
  omega
 | succ f ih =>
  intro b s wr hD hI hu hb
  have VD := iN hb
  have lu : b < n := by rw [← hI.len]; exact (List.getElem?_eq_some_iff.1 hb).1
  obtain ⟨x, NV, gb, go, hx, rfl, hgb, c0, c1, c2, hN⟩ := HG.at_ hD.aD (j := b) (by rw [HB.len]; exact lu)
  obtain ⟨NA, di, rfl, hn1, hn2⟩ := hN.slice
  obtain ⟨m1, m2⟩ := hD.cell hI.len lu
  have FD := aiU (hD.set b)
  have HIS := aiU (hI.set b)
  have HU := aiU (show unseen (s.1.set b true) ≤ f by omega)
  have HI := aiU hN
  have HX := aiU hx
  have IH := aiU ih
  have JI := aiU HG
  have Kl := aiU HB
  have hnl : x.nx.length ≤ 5000 := HB.two b x hx
  have x1 : wr.cell? ⟨sq, 0, none⟩ = some (.slice (some ⟨sb, 0, none⟩) n n) := by simp [World.cell?, hD.Vw]
  have x2 : (b : Int) < (n : Int) := by omega
  have vW := hD.aD.size
  have x3 : gq < wr.heap.size := (Array.getElem?_eq_some_iff.1 hD.La).1
  have x4 : (wr.setCell ⟨sb, b, none⟩ (.bool true)).cell? ⟨gq, 0, none⟩ = some (.slice (some ⟨gb, go, none⟩) G.length cap) := by simp [World.cell?, FD.out.La]
  have Yg : (b : Int) < (G.length : Int) := by rw [HB.len]; omega
  have Em := (hD.row.lt sb rfl)
  have hne : gb ≠ sb := by omega
  have x5 : (wr.setCell ⟨sb, b, none⟩ (.bool true)).cell? ⟨gb, go + b * 3 + 2, none⟩ = some (.slice NA x.nx.length di) := by
   rw [World.cell?_of_block (Below.heap_setCell _ _ _ _ hne)]; exact c2
  clear hx hN ih HG HB hD hI hu hb VD hc1 c0 c1 c2 hn1
  go_enter Tryz.func66, Tryz.ntmps66
  go_upto_region 1 with fail
  obtain ⟨U, hU⟩ : ∃ U, wr.setCell ⟨sb, b, none⟩ (.bool true) = U := ⟨_, rfl⟩
  rw [hU] at FD x4 x5 ⊢
  clear hU m1 m2 x1 x3
  have Hv : cM G b = x.nx.map Int.toNat := vL HX.out
  have mY := aiU Hv
  obtain ⟨iI, p9, qd, oy, ox⟩ := info_parts ow
  clear Hv
  go_upto_region 2 with fail
  go_loopw [18] (fun a18 wr => ∃ j : Nat, j ≤ x.nx.length ∧ a18 = .int .i64 (j : Int) ∧ FK w wr sq sb gq fq lq n (.slice (some ⟨gb, go, none⟩) G.length cap) pv (kf (cM G) f ((cM G b).take j) (s.1.set b true, s.2))) (fun a18 _ => x.nx.length - (intOf a18).toNat)
  case atStart => exact ⟨0, Nat.zero_le _, rfl, FD.out⟩
  case round =>
   obtain ⟨j, hj, rfl, hD⟩ := hrel
   clear FD x4 x5
   have lf : ∀ t ∈ (cM G b).take j, t < n := fun t ht => Kl.out.lt b lu t (List.mem_of_mem_take ht)
   obtain ⟨M, hL, -⟩ := LP Kl.out.lt f ((cM G b).take j) (s.1.set b true, s.2) lf HIS.out.len HU.out
   have hI := HIS.out.step hL
   have hU := Nat.le_trans hL.unseen HU.out
   obtain ⟨sj, hsj⟩ : ∃ q, kf (cM G) f ((cM G b).take j) (s.1.set b true, s.2) = q := ⟨_, rfl⟩
   rw [hsj] at hD hI hU
   have Zl := aiU hsj
   have Z3 := aiU hD
   have WG := aiU hI
   have HUJ := aiU hU
   have VB := hD.aD.size
   have y1 : wr.cell? ⟨sq, 0, none⟩ = some (.slice (some ⟨sb, 0, none⟩) n n) := by simp [World.cell?, hD.Vw]
   have y2 : wr.cell? ⟨fq, 0, none⟩ = some (.func (.func 66) #[] #[.pointer (some ⟨sq, 0, none⟩), .pointer (some ⟨gq, 0, none⟩), .pointer (some ⟨fq, 0, none⟩), .pointer (some ⟨lq, 0, none⟩)]) := by simp [World.cell?, hD.Lb]
   clear lf hL hI hU hsj M
   by_cases hlt : j < x.nx.length
   ·obtain ⟨sv, nb, ie, hs, rfl, hnb, x1⟩ := HI.out.at_ hD.aD hlt
    obtain ⟨t, rfl⟩ : ∃ t : Nat, sv = (t : Int) := ⟨sv.toNat, by have := Kl.out.nx b x HX.out sv (List.mem_of_getElem? hs); omega⟩
    have htn : t < n := by have := Kl.out.nx b x HX.out _ (List.mem_of_getElem? hs); omega
    have HT := aiU (show (cM G b)[j]? = some t by rw [mY.out, List.getElem?_map, hs]; rfl)
    have dl : decide ((j : Int) < (x.nx.length : Int)) = true := by simpa using hlt
    have hti : (t : Int) < (n : Int) := by omega
    obtain ⟨z1, z2⟩ := hD.cell WG.out.len htn
    have lf := EG (nx := cM G) (f := f) (s := (s.1.set b true, s.2)) HT.out
    rw [Zl.out] at lf
    clear hs hD
    by_cases Lf : sj.1.getD t false = true
    ·rw [Lf] at z1
     rw [if_pos Lf] at lf
     have jC := aiU lf
     clear lf Lf
     go_wp2_with fail
     go_roundw
     case rel => exact ⟨j + 1, by omega, by go_num, by rw [jC.out]; exact Z3.out⟩
     case measure => simp [intOf]; omega
    ·have hsf : sj.1.getD t false = false := by simpa using Lf
     rw [hsf] at z1
     rw [if_neg Lf] at lf
     have jC := aiU lf
     have HUN := aiU (show sj.1[t]? = some false by
      rcases qI (show t < sj.1.length by rw [WG.out.len]; exact htn) with h | h
      ·exact absurd (mo.2 h) Lf
      ·exact h)
     clear lf Lf hsf
     go_wp2_with (go_at_call 66; refine (IH.out t sj wr Z3.out WG.out HUJ.out HUN.out).mono ?_; rintro e W7 ⟨rfl, hD7⟩)
     go_roundw
     case rel => exact ⟨j + 1, by omega, by go_num, by rw [jC.out]; exact hD7⟩
     case measure => simp [intOf]; omega
   ·obtain rfl : j = x.nx.length := by omega
    have dl : decide ((x.nx.length : Int) < (x.nx.length : Int)) = false := by simp
    obtain ⟨v, hv1, hv2⟩ := hD.Xx
    have hdl := WG.out.le
    have hn5 := Kl.out.le
    obtain ⟨vA, dI, El⟩ : ∃ vA dI, v = .slice vA sj.2.length dI := by
     rcases hv2.2 with ⟨h, h'⟩ | ⟨g, cap', cur, h, _⟩
     ·exact ⟨_, _, by rw [h, h']⟩
     ·exact ⟨_, _, h⟩
    subst El
    have HV1 := aiU hv1
    have HV2 := aiU hv2
    have y3 : wr.cell? ⟨lq, 0, none⟩ = some (.slice vA sj.2.length dI) := by simp [World.cell?, hv1]
    have VF : lq < wr.heap.size := (Array.getElem?_eq_some_iff.1 hv1).1
    have HNL := aiU (dZ hv1 hv2 ahW)
    have y4 : wr.frozen? ⟨lq, 0, none⟩ = false := by simp [World.frozen?, hv1]
    clear hv1 hv2 hD y1 y2
    go_wp2_with (at_builtin; refine wpList_append_own_at _ rfl (.tmp 31) (.tmp 33) 38 rfl w.heap.size 3 iI (.int .i64 0) 1 8 Tryz.underlying38 p9 qd oy ox rfl ahW (.slice vA sj.2.length dI) _ _ rfl (HV2.out.alloc _) ⟨wr.heap.size, 0, none⟩ 1 1 [.int .i64 (b : Int)] rfl rfl (cell_one_new _ _ _) ahX ahY ahU ah6 ?_; intro v' W' hown' hgrow _ j6; obtain ⟨g', cap', rfl⟩ := ownsRow_succ hown'; have hc1 := hgrow.cell (a := ⟨lq, 0, none⟩) (v := .slice vA sj.2.length dI) ah8 HNL.out; have hf1 : W'.frozen? ⟨lq, 0, none⟩ = false := (World.frozen?_of_block (hgrow.block lq ah3 HNL.out)).trans ah8)
    have hB := Z3.out.app (b := b) HV1.out HV2.out ((Below.refl wr.heap.size wr).alloc (Nat.le_refl _) (.cells #[.int .i64 (b : Int)] 3)) hgrow hown'
    refine bodyPost_end (results_none rfl _ _ _) rfl ⟨rfl, ?_⟩
    ·rw [uV]
     have e : (cM G b).take x.nx.length = cM G b := List.take_of_length_le (by rw [mY.out, List.length_map]; exact Nat.le_refl _)
     have e2 := Zl.out
     rw [e] at e2
     rw [e2]
     exact hB
end
section
open Go.RowKit
def swp (xs : List Int) (i : Nat) : List Int := (List.range xs.length).map fun k => if k < i ∨ xs.length ≤ k + i then xs.getD (xs.length - 1 - k) 0 else xs.getD k 0
theorem jV (xs : List Int) (i : Nat) : (swp xs i).length = xs.length := by simp [swp]
theorem oT {xs : List Int} {i k : Nat} (hk : k < xs.length) : (swp xs i)[k]? = some (if k < i ∨ xs.length ≤ k + i then xs.getD (xs.length - 1 - k) 0 else xs.getD k 0) := by
 unfold swp; rw [List.getElem?_map, List.getElem?_range hk]; rfl
theorem F7 (xs : List Int) : swp xs 0 = xs := by
 apply List.ext_getElem?
 intro k
 by_cases hk : k < xs.length
 ·rw [oT hk, if_neg ahU]; simp [List.getD, List.getElem?_eq_getElem hk]
 ·rw [List.getElem?_eq_none (by rw [jV]; omega), List.getElem?_eq_none ahU]
theorem F9 {xs : List Int} {i : Nat} (h : xs.length ≤ 2 * i + 1) : swp xs i = xs.reverse := by
 apply List.ext_getElem?
 intro k
 by_cases hk : k < xs.length
 ·rw [oT hk, List.getElem?_reverse hk]
  have h1 : xs.length - 1 - k < xs.length := by omega
  by_cases h2 : k < i ∨ xs.length ≤ k + i
  ·rw [if_pos h2]; simp [List.getD, List.getElem?_eq_getElem h1]
  ·rw [if_neg h2, show xs.length - 1 - k = k by omega]; simp [List.getD, List.getElem?_eq_getElem hk]
 ·rw [List.getElem?_eq_none (by rw [jV]; omega), List.getElem?_eq_none ah3]
theorem F8 {xs : List Int} {i j : Nat} (h : i + j + 1 = xs.length) (hij : i < j) : ((swp xs i).set i (xs.getD j 0)).set j (xs.getD i 0) = swp xs (i + 1) := by
 apply List.ext_getElem?
 intro k
 by_cases hk : k < xs.length
 ·rw [oT hk, List.getElem?_set, List.getElem?_set]
  simp only [List.length_set, jV]
  by_cases h1 : j = k
  ·subst h1
   rw [if_pos rfl, if_pos hk, if_pos ahU, show xs.length - 1 - j = i by omega]
  ·rw [if_neg h1]
   by_cases h2 : i = k
   ·subst h2
    rw [if_pos rfl, if_pos hk, if_pos ahU, show xs.length - 1 - i = j by omega]
   ·rw [if_neg h2, oT hk]
    by_cases h3 : k < i ∨ xs.length ≤ k + i
    ·rw [if_pos h3, if_pos ahU]
    ·rw [if_neg h3, if_neg ahU]
 ·rw [List.getElem?_eq_none (by simp [jV]; omega), List.getElem?_eq_none (by rw [jV]; omega)]
theorem j5 (l : List Int) (k : Nat) (x : Int) : (dU l).set k (.int .i64 x) = dU (l.set k x) := by simp [dU, List.map_set]
theorem wA {w : World} {B g m cap : Nat} {l : List Int} (h : w.ownsRow B 3 1 (.slice (some ⟨g, 0, none⟩) m cap) m (dU l)) (hl : l.length = m) {k : Nat} (hk : k < m) : w.cell? ⟨g, k, none⟩ = some (.int .i64 (l.getD k 0)) := by
 rw [h.cellAt _ ahU, dU, List.getElem?_map, List.getD, List.getElem?_eq_getElem (by omega : k < l.length)]; rfl
theorem xN (B g m cap : Nat) (xs : List Int) (w : World) (hm : xs.length = m) (hm5 : m ≤ 1000000) (hr : w.ownsRow B 3 1 (.slice (some ⟨g, 0, none⟩) m cap) m (dU xs)) :
  Calls Tryz.prog 67 #[.slice (some ⟨g, 0, none⟩) m cap] w fun e w' => e = .returned (.tuple #[]) ∧ w'.ownsRow B 3 1 (.slice (some ⟨g, 0, none⟩) m cap) m (dU xs.reverse) ∧ w'.heap.size = w.heap.size ∧ w.grownBy w' (some g) := by
 have HR := aiU hr
 clear hr
 have HM := aiU hm
 clear hm
 obtain ⟨rv, Fl⟩ : ∃ r, xs.reverse = r := ⟨_, rfl⟩
 rw [Fl]
 have HRV := aiU Fl
 clear Fl
 have w1 : IntKind.i64.wrap ((m : Int) - 1) = (m : Int) - 1 := IntWalk.i64_in _ ahU
 go_enter Tryz.func67, Tryz.ntmps67
 go_upto_region 1 with fail
 clear w1
 go_loopw [2, 3] (fun a2 a3 wr => ∃ i : Nat, i ≤ m ∧ a2 = .int .i64 (i : Int) ∧ a3 = .int .i64 ((m : Int) - 1 - (i : Int)) ∧ wr.ownsRow B 3 1 (.slice (some ⟨g, 0, none⟩) m cap) m (dU (swp xs i)) ∧ wr.heap.size = w.heap.size ∧ w.grownBy wr (some g)) (fun a2 _ _ => m - (intOf a2).toNat)
 case atStart => exact ⟨0, Nat.zero_le _, rfl, by simp, by rw [F7]; exact HR.out, rfl, ⟨rfl, rfl, rfl, Nat.le_refl _, fun _ _ _ => rfl⟩⟩
 case round =>
  obtain ⟨i, him, rfl, rfl, hrw, hsz, hg⟩ := hrel
  have Uu := aiU hrw
  have HG := aiU hg
  clear hg
  by_cases hlt : (i : Int) < (m : Int) - 1 - (i : Int)
  ·obtain ⟨j, hj⟩ : ∃ j : Nat, (m : Int) - 1 - (i : Int) = (j : Int) := ⟨m - 1 - i, by omega⟩
   have HJ := aiU (show i + j + 1 = xs.length by rw [HM.out]; omega)
   rw [hj] at hlt ⊢
   have hij : i < j := by omega
   have hjm : j < m := by omega
   have dl : decide ((i : Int) < (j : Int)) = true := decide_eq_true hlt
   have c1 := wA hrw (by rw [jV, HM.out]) (show i < m by omega)
   have c2 := wA hrw (by rw [jV, HM.out]) hjm
   have e1 : (swp xs i).getD i 0 = xs.getD i 0 := by rw [List.getD, oT aiM, if_neg aiM]; rfl
   have e2 : (swp xs i).getD j 0 = xs.getD j 0 := by rw [List.getD, oT aiM, if_neg aiM]; rfl
   rw [e1] at c1
   rw [e2] at c2
   have f1 := hrw.frozenAt i
   have f2 := hrw.frozenAt j
   have i1 : (i : Int) < (m : Int) := by omega
   have i2 : (j : Int) < (m : Int) := by omega
   have w3 : IntKind.i64.wrap ((i : Int) + 1) = (i : Int) + 1 := IntWalk.i64_in _ ahU
   have w4 : IntKind.i64.wrap ((j : Int) - 1) = (j : Int) - 1 := IntWalk.i64_in _ ahU
   have wY := (hrw.lt g rfl).2
   have HST := aiU (F8 HJ.out hij)
   have hne : j ≠ i := by omega
   have aeB : i ≠ j := by omega
   obtain ⟨xi, VA⟩ : ∃ v, xs.getD i 0 = v := ⟨_, rfl⟩
   obtain ⟨xj, hxj⟩ : ∃ v, xs.getD j 0 = v := ⟨_, rfl⟩
   rw [VA] at c1 HST
   rw [hxj] at c2 HST
   clear hrw e1 e2 hj VA hxj
   go_upto_region 3 with fail
   go_region
   have r1 := ((Uu.out.stored i (.int .i64 xj)).1.stored j (.int .i64 xi)).1
   rw [j5, j5, HST.out] at r1
   have g1 : wr.grownBy ((wr.setCell ⟨g, i, none⟩ (.int .i64 xj)).setCell ⟨g, j, none⟩ (.int .i64 xi)).drew (some g) := ⟨rfl, rfl, rfl, by simp, fun k hk hne => by
    have hkg : k ≠ g := fun e => hne (by rw [e])
    show ((wr.setCell ⟨g, i, none⟩ (.int .i64 xj)).setCell ⟨g, j, none⟩ (.int .i64 xi)).heap[k]? = _
    rw [Below.heap_setCell _ _ _ _ hkg, Below.heap_setCell _ _ _ _ hkg]⟩
   have s1 : ((wr.setCell ⟨g, i, none⟩ (.int .i64 xj)).setCell ⟨g, j, none⟩ (.int .i64 xi)).drew.heap.size = w.heap.size := by rw [← hsz]; simp
   have R1 := aiU (ak r1 (Below.refl _ _).drew)
   obtain ⟨X, hX⟩ : ∃ X, ((wr.setCell ⟨g, i, none⟩ (.int .i64 xj)).setCell ⟨g, j, none⟩ (.int .i64 xi)).drew = X := ⟨_, rfl⟩
   rw [hX] at R1 g1 s1 ⊢
   have G1 := aiU (show w.grownBy X (some g) from ⟨g1.os.trans HG.out.os, g1.tape.trans HG.out.tape, g1.output.trans HG.out.output, by omega, fun k hk hne => (g1.block k ahU hne).trans (HG.out.block k hk hne)⟩)
   have e3 : (j : Int) - 1 = (m : Int) - 1 - ((i + 1 : Nat) : Int) := by have := HJ.out; have := HM.out; omega
   clear hX g1 r1 c1 c2 f1 f2
   go_wp2_with fail
   go_roundw
   case rel => exact ⟨i + 1, by omega, by go_num, by simp, R1.out, s1, G1.out⟩
   case measure => simp [intOf]; omega
  ·have dl : decide ((i : Int) < (m : Int) - 1 - (i : Int)) = false := decide_eq_false hlt
   go_wp2_with fail
   refine bodyPost_end (results_none rfl _ _ _) rfl ⟨rfl, ?_, hsz, HG.out⟩
   rw [← HRV.out, ← F9 (i := i) (by rw [HM.out]; omega)]
   exact Uu.out
end
section
open Go.RowKit
theorem lS.each {n : Nat} : ∀ {l : List aU} {a z : Int}, lS n a l z → ∀ x ∈ l, ∃ e, NL n e x
 | [], _, _, _, x, hx => by cases hx
 | y :: l, a, z, h, x, hx => by
  rcases List.mem_cons.1 hx with rfl | hx
  ·exact ⟨a, h.1⟩
  ·exact lS.each h.2 x hx
theorem GB.of {G : List aU} {P : List (List Int)} (h : bQ G P) (hn : G.length ≤ 5000) : GB G G.length := by
 obtain ⟨z, hz⟩ := h.ok
 exact ⟨rfl, hn, fun b x hx => by obtain ⟨e, he⟩ := hz.each x (List.mem_of_getElem? hx); have := he.two; omega, fun b x hx => by obtain ⟨e, he⟩ := hz.each x (List.mem_of_getElem? hx); exact he.nx⟩
theorem uC (bv pv : Value) (G : List aU) (P : List (List Int)) (w : World) (HG : fL w bv G) (HP : mG w pv P) (HV : bQ G P) (hn : G.length ≤ 5000) :
  Calls Tryz.prog 36 #[.agg #[bv, pv]] w fun e w' => (∃ g cap, e = .returned (.slice (some ⟨g, 0, none⟩) (dK G.length (cM G)).length cap) ∧ Ints w' (.slice (some ⟨g, 0, none⟩) (dK G.length (cM G)).length cap) (cm (dK G.length (cM G))) ∧ w.heap.size ≤ g) ∧ Below w.heap.size w w' := by
 have HB := aiU (GB.of HV hn)
 obtain ⟨O, hO⟩ : ∃ O, dK G.length (cM G) = O := ⟨_, rfl⟩
 rw [hO]
 have HO := aiU hO
 clear hO
 have hne : 0 < G.length := List.length_pos_iff.2 HV.ne
 obtain ⟨A, cap, rfl, hc1, hc2⟩ := HG.slice
 obtain ⟨PA, aX, rfl, hp1, hp2⟩ := HP.slice
 obtain ⟨V0, gC⟩ : ∃ V0, w.alloc (.cells #[.slice A G.length cap, .slice PA P.length aX] 31) = V0 := ⟨_, rfl⟩
 obtain ⟨gq, J1⟩ : ∃ q, w.heap.size = q := ⟨_, rfl⟩
 have b0 : Below w.heap.size w V0 := gC ▸ (Below.refl _ _).alloc (Nat.le_refl _) _
 have k0 : V0.heap[gq]? = some (.cells #[.slice A G.length cap, .slice PA P.length aX] 31 (0, 0)) := by rw [← gC, ← J1]; exact heap_alloc_new _ _
 have y0 : V0.cell? ⟨gq, 0, none⟩ = some (.slice A G.length cap) := by simp [World.cell?, k0]
 have y1 : V0.cell? ⟨gq, 1, none⟩ = some (.slice PA P.length aX) := by simp [World.cell?, k0]
 have s0 : gq < V0.heap.size := (Array.getElem?_eq_some_iff.1 k0).1
 have jg := aiU (show Calls Tryz.prog 35 #[.agg #[.slice A G.length cap, .slice PA P.length aX]] V0 fun e w' => e = .returned (.bool true) ∧ Below V0.heap.size V0 w' from
  (jU _ _ G P V0 (HG.below b0) (HP.below b0) hn (fun x hx => by obtain ⟨i, hi⟩ := List.mem_iff_getElem?.1 hx; exact HB.out.two i x hi)).mono fun e w' h => by
   obtain ⟨⟨r, rfl, hr⟩, hb⟩ := h
   rw [hr.2 HV]
   exact ⟨rfl, hb⟩)
 have K0 := aiU k0
 have B0 := aiU b0
 have JI := aiU HG
 clear HG HP HV b0 k0 hc1 hc2 hp1 hp2
 go_enter Tryz.func36, Tryz.ntmps36
 go_upto_region 4 with (go_at_call 35; refine jg.out.mono ?_; rintro e W1 ⟨rfl, hb1⟩)
 obtain ⟨lq, VF⟩ : ∃ q, W1.heap.size = q := ⟨_, rfl⟩
 obtain ⟨V2, hV2⟩ : ∃ V, W1.alloc (.cells #[.slice none 0 0] 38) = V := ⟨_, rfl⟩
 rw [hV2, VF]
 have b2 : Below w.heap.size w V2 := hV2 ▸ (B0.out.trans (hb1.mono B0.out.size)).alloc (by have := B0.out.size; have := hb1.size; omega) _
 have kg2 : V2.heap[gq]? = some (.cells #[.slice A G.length cap, .slice PA P.length aX] 31 (0, 0)) := by rw [← hV2, heap_alloc_old _ _ (by have := hb1.size; omega)]; exact (hb1.block gq s0).trans K0.out
 have kl2 : V2.heap[lq]? = some (.cells #[.slice none 0 0] 38 (0, 0)) := by rw [← VF, ← hV2]; exact heap_alloc_new _ _
 have sl2 : lq < V2.heap.size := (Array.getElem?_eq_some_iff.1 kl2).1
 have sg2 : gq < V2.heap.size := (Array.getElem?_eq_some_iff.1 kg2).1
 have lo2 : w.heap.size ≤ lq := by have := B0.out.size; have := hb1.size; omega
 have v0 : V2.cell? ⟨gq, 0, none⟩ = some (.slice A G.length cap) := by simp [World.cell?, kg2]
 obtain ⟨i2, hi2, hs0, hs1, hs2⟩ := info_parts vR
 obtain ⟨U1, lm, dQ, gr1⟩ := run_make_full (P := Tryz.prog) V2 w.heap.size 55 4 i2 (.bool false) 1 Tryz.underlying55 hi2 hs0 hs1 .i64 .i64 G.length aiH ahY b2.size
 rw [Nat.mul_one, show (Value.bool false).cells = #[Value.bool false] from rfl, toList_madeCells_one] at dQ
 have Qf := aiU dQ
 have zb := aiU gr1
 have KG2 := aiU kg2
 have KL2 := aiU kl2
 have B2 := aiU b2
 obtain ⟨sb, Em⟩ : ∃ q, V2.heap.size = q := ⟨_, rfl⟩
 rw [Em] at lm Qf sl2 sg2
 clear dQ gr1 hV2 VF hb1 b2 kg2 kl2 gC y0 y1 jg i2 hi2 hs0 hs1 hs2
 go_upto_region 5 with fail
 obtain ⟨sq, Le⟩ : ∃ q, U1.heap.size = q := ⟨_, rfl⟩
 obtain ⟨V4, qQ⟩ : ∃ V, U1.alloc (.cells #[.slice (some ⟨sb, 0, none⟩) G.length G.length] 55) = V := ⟨_, rfl⟩
 rw [qQ, Le]
 obtain ⟨fq, QN⟩ : ∃ q, V4.heap.size = q := ⟨_, rfl⟩
 obtain ⟨V5, uR⟩ : ∃ V, V4.alloc (.cells #[.func (.func 66) #[] #[.pointer (some ⟨sq, 0, none⟩), .pointer (some ⟨gq, 0, none⟩), .pointer (some ⟨fq, 0, none⟩), .pointer (some ⟨lq, 0, none⟩)]] 152) = V := ⟨_, rfl⟩
 have X7 : ∀ (fn : Fn) (first cap : Array Value) (w : World), (Instr.makeFunc fn first cap).run Tryz.prog w = .ok (.func fn first cap) w := fun _ _ _ _ => rfl
 have he : ∀ (args : Array Value) (w : World), (callFunc 66 args).run Tryz.prog w = .ok (.enter 66 args) w := fun _ _ => by kernel_rfl
 clear lm v0
 go_upto_region 7 with fail
 have sU : sb < U1.heap.size := (Qf.out.lt sb rfl).2
 have g1 := zb.out.size
 have e4 : ∀ (q : Nat) (x : Option Obj), q < U1.heap.size → U1.heap[q]? = x → V5.heap[q]? = x := fun q x hq hx => by
  rw [← uR, heap_alloc_old _ _ (by rw [← qQ, World.size_alloc]; omega), ← qQ, heap_alloc_old _ _ hq]; exact hx
 have eU : ∀ (q : Nat) (x : Option Obj), q < V2.heap.size → V2.heap[q]? = x → V5.heap[q]? = x := fun q x hq hx => e4 q x ahU ((zb.out.block q hq ahZ).trans hx)
 have Pk : FK w V5 sq sb gq fq lq G.length (.slice A G.length cap) (.slice PA P.length aX) (List.replicate G.length false, []) := by
  refine ⟨?_, ?_, eU _ _ ahU KG2.out, ?_, ⟨_, eU _ _ ahU KL2.out, World.ownsRow_nil _ _ _ _⟩, ?_, by omega, by omega, ?_, lo2⟩
  ·rw [← uR, ← qQ]
   exact ((B2.out.grown zb.out B2.out.size (fun k hk => by cases hk)).alloc (by have := B2.out.size; omega) _).alloc (by have := B2.out.size; simp; omega) _
  ·rw [← uR, heap_alloc_old _ _ (by rw [← qQ, World.size_alloc]; omega), ← qQ, ← Le]; exact heap_alloc_new _ _
  ·rw [← uR, ← QN]; exact heap_alloc_new _ _
  ·rw [← uR, ← qQ]
   have := (Qf.out.alloc (.cells #[.slice (some ⟨sb, 0, none⟩) G.length G.length] 55)).alloc (.cells #[.func (.func 66) #[] #[.pointer (some ⟨sq, 0, none⟩), .pointer (some ⟨gq, 0, none⟩), .pointer (some ⟨fq, 0, none⟩), .pointer (some ⟨lq, 0, none⟩)]] 152)
   simpa [qU] using this
  ·rw [← QN, ← qQ, World.size_alloc]; have := B2.out.size; omega
 have WQ := aiU Pk
 have WH := aiU (show DI G.length (List.replicate G.length false, []) from ⟨by simp, by simp, by simp⟩)
 have Qb := aiU (AU (.slice A G.length cap) (.slice PA P.length aX) G G.length w sq sb gq fq lq JI.out HB.out G.length 0 _ V5 Pk WH.out (by rw [gA]; exact Nat.le_refl _) (by simp [hne]))
 have q1 : V5.cell? ⟨fq, 0, none⟩ = some (.func (.func 66) #[] #[.pointer (some ⟨sq, 0, none⟩), .pointer (some ⟨gq, 0, none⟩), .pointer (some ⟨fq, 0, none⟩), .pointer (some ⟨lq, 0, none⟩)]) := by simp [World.cell?, Pk.Lb]
 clear Pk e4 eU uR QN qQ Le Em g1 sU Qf zb KG2 KL2 B2 WQ
 go_upto_region 8 with (go_at_call 66; refine Qb.out.mono ?_; rintro e W6 ⟨rfl, Yx⟩)
 obtain ⟨v, hl6, hr6⟩ := Yx.Xx
 obtain ⟨gr, JW⟩ := qg hne HB.out.lt
 obtain ⟨L, hL⟩ : ∃ L, (qA (cM G) G.length 0 (List.replicate G.length false, [])).2 = L := ⟨_, rfl⟩
 have vU : dK G.length (cM G) = L.reverse := by unfold dK; rw [hL]
 have hLn : L.length ≤ G.length := by
  have := fy JW gr.lt
  rwa [vU, List.length_reverse] at this
 have J4 : 0 < L.length := by
  have := gr.z
  rw [vU] at this
  have := (List.getElem?_eq_some_iff.1 this).1
  rwa [List.length_reverse] at this
 rw [hL] at hr6
 obtain ⟨g, aY, El⟩ : ∃ g aY, v = .slice (some ⟨g, 0, none⟩) L.length aY := by
  rcases hr6.2 with ⟨h, h'⟩ | ⟨g, cap', cur, h, _⟩
  ·omega
  ·exact ⟨_, _, h⟩
 subst El
 have c6 : W6.cell? ⟨lq, 0, none⟩ = some (.slice (some ⟨g, 0, none⟩) L.length aY) := by simp [World.cell?, hl6]
 have HB6 := aiU Yx.aD
 have s6 : lq < W6.heap.size := (Array.getElem?_eq_some_iff.1 hl6).1
 have Zp := aiU (xN w.heap.size g L.length aY (cm L) W6 (by simp [cm]) ahU hr6)
 have CQ := aiU (dZ hl6 hr6 ahW)
 have HL6 := aiU hl6
 have WI := aiU (hr6.lt g rfl)
 have Fe := aiU vU
 rw [HO.out] at Fe
 clear Yx hl6 hr6 hL vU gr JW q1 Qb
 go_upto_region 9 with (go_at_call 67; refine Zp.out.mono ?_; rintro e W7 ⟨rfl, hr7, hs7, hg7⟩)
 have k7 : W7.heap[lq]? = some (.cells #[.slice (some ⟨g, 0, none⟩) L.length aY] 38 (0, 0)) := (hg7.block lq s6 CQ.out).trans HL6.out
 have c7 : W7.cell? ⟨lq, 0, none⟩ = some (.slice (some ⟨g, 0, none⟩) L.length aY) := by simp [World.cell?, k7]
 have s7 : lq < W7.heap.size := by omega
 have HR7 := aiU hr7
 have HG7 := aiU hg7
 clear hr7 k7 c6 hg7
 go_wp2_with fail
 go_ret
 have e1 : O.length = L.length := by rw [Fe.out, List.length_reverse]
 refine ⟨⟨g, aY, by rw [e1]; rfl, ?_, WI.out.1⟩, HB6.out.grown HG7.out HB6.out.size (fun k hk => by cases hk; exact WI.out.1)⟩
 have e2 : (cm L).reverse = cm O := by rw [Fe.out]; simp [cm]
 have h3 := HR7.out
 rw [e2, show L.length = (cm O).length by simp [cm, e1]] at h3
 rw [show O.length = (cm O).length by simp [cm]]
 exact eL h3
end
section
section
variable {n : Nat} {nx : Nat → List Nat} {ord : List Nat} {pos : Nat → Nat} {D : List Int}
theorem Gx (g : Gr n nx ord pos) (t : TI n nx ord pos D) {a b : Nat} (ha : a ∈ ord) (pa : jf D a) (h : pos b < pos a) :
  ∃ a' : Nat, D.getD a (-1) = (a' : Int) ∧ a' ∈ ord ∧ jf D a' ∧ pos a' < pos a ∧ ∀ x, bR D b x → (bR D a x ↔ bR D a' x) := by
 rcases pa with rfl | pa
 ·rw [g.Dz] at h; omega
 ·obtain ⟨a', e⟩ : ∃ a' : Nat, D.getD a (-1) = (a' : Int) := ⟨_, (Int.toNat_of_nonneg pa).symm⟩
  obtain ⟨c1, c2, c3, c4, c5⟩ := t.up _ _ e
  refine ⟨a', e, c2, c4, c3, fun x hx => ?_⟩
  rw [bR.step e]
  refine ⟨fun k => ?_, .inr⟩
  rcases k with rfl | k
  ·have := t.le hx; omega
  ·exact k
structure Cm (ord : List Nat) (D : List Int) (a0 b0 a b : Nat) : Prop where
 ha : a ∈ ord
 pa : jf D a
 hb : b ∈ ord
 pb : jf D b
 eq : ∀ x, (bR D a0 x ∧ bR D b0 x) ↔ (bR D a x ∧ bR D b x)
theorem Cm.left (g : Gr n nx ord pos) (t : TI n nx ord pos D) {a0 b0 a b : Nat} (c : Cm ord D a0 b0 a b) (h : pos b < pos a) : ∃ a' : Nat, D.getD a (-1) = (a' : Int) ∧ pos a' < pos a ∧ Cm ord D a0 b0 a' b := by
 obtain ⟨a', e, h1, h2, h3, h4⟩ := Gx g t c.ha c.pa h
 refine ⟨a', e, h3, h1, h2, c.hb, c.pb, fun x => ?_⟩
 rw [c.eq]
 exact ⟨fun ⟨p, q⟩ => ⟨(h4 x q).1 p, q⟩, fun ⟨p, q⟩ => ⟨(h4 x q).2 p, q⟩⟩
theorem Cm.right (g : Gr n nx ord pos) (t : TI n nx ord pos D) {a0 b0 a b : Nat} (c : Cm ord D a0 b0 a b) (hne : a ≠ b) (h : ¬ pos b < pos a) : ∃ b' : Nat, D.getD b (-1) = (b' : Int) ∧ pos b' < pos b ∧ Cm ord D a0 b0 a b' := by
 have h' : pos a < pos b := by
  have : pos a ≠ pos b := fun e => hne (g.inj c.ha c.hb e)
  omega
 obtain ⟨b', e, h1, h2, h3, h4⟩ := Gx g t c.hb c.pb h'
 refine ⟨b', e, h3, c.ha, c.pa, h1, h2, fun x => ?_⟩
 rw [c.eq]
 exact ⟨fun ⟨p, q⟩ => ⟨p, (h4 x p).1 q⟩, fun ⟨p, q⟩ => ⟨p, (h4 x p).2 q⟩⟩
theorem Cm.done {a0 b0 c : Nat} (h : Cm ord D a0 b0 c c) (x : Nat) : bR D c x ↔ bR D a0 x ∧ bR D b0 x := by
 rw [h.eq]
 exact ⟨fun k => ⟨k, k⟩, fun k => k.1⟩
def Np (ord : List Nat) (D : List Int) (js : List Nat) (next : Int) : Prop :=
 (next = -1 ∧ ∀ p ∈ js, ¬ jf D p) ∨ ∃ c : Nat, next = (c : Int) ∧ c ∈ ord ∧ jf D c ∧ (∃ p ∈ js, jf D p) ∧ ∀ x, bR D c x ↔ ∀ p ∈ js, jf D p → bR D p x
theorem Np.nil : Np ord D [] (-1) := .inl ⟨rfl, by simp⟩
theorem Np.skip {js : List Nat} {next : Int} {p : Nat} (h : Np ord D js next) (hp : ¬ jf D p) : Np ord D (js ++ [p]) next := by
 rcases h with ⟨h1, h2⟩ | ⟨c, h1, h2, h3, ⟨q, hq, h4⟩, h5⟩
 ·refine .inl ⟨h1, fun q hq => ?_⟩
  rcases List.mem_append.1 hq with hq | hq
  ·exact h2 q hq
  ·obtain rfl : q = p := by simpa using hq
   exact hp
 ·refine .inr ⟨c, h1, h2, h3, ⟨q, List.mem_append_left _ hq, h4⟩, fun x => ?_⟩
  rw [h5]
  constructor
  ·intro k r hr pr
   rcases List.mem_append.1 hr with hr | hr
   ·exact k r hr pr
   ·obtain rfl : r = p := by simpa using hr
    exact absurd pr hp
  ·exact fun k r hr pr => k r (List.mem_append_left _ hr) pr
theorem Np.first {js : List Nat} {next : Int} {p : Nat} (h : Np ord D js next) (hn : next < 0) (hp : jf D p) (ho : p ∈ ord) : Np ord D (js ++ [p]) (p : Int) := by
 rcases h with ⟨h1, h2⟩ | ⟨c, h1, _⟩
 ·refine .inr ⟨p, rfl, ho, hp, ⟨p, by simp, hp⟩, fun x => ⟨fun k r hr pr => ?_, fun k => k p ahZ hp⟩⟩
  rcases List.mem_append.1 hr with hr | hr
  ·exact absurd pr (h2 r hr)
  ·obtain rfl : r = p := by simpa using hr
   exact k
 ·omega
theorem Np.join {js : List Nat} {next : Int} {p d : Nat} (h : Np ord D js next) (hn : 0 ≤ next) (hp : jf D p) (hd : d ∈ ord) (pd : jf D d) (hx : ∀ x, bR D d x ↔ bR D next.toNat x ∧ bR D p x) : Np ord D (js ++ [p]) (d : Int) := by
 rcases h with ⟨h1, _⟩ | ⟨c, rfl, h2, h3, ⟨q, hq, h4⟩, h5⟩
 ·omega
 ·refine .inr ⟨d, rfl, hd, pd, ⟨p, by simp, hp⟩, fun x => ?_⟩
  rw [hx, Int.toNat_natCast, h5]
  constructor
  ·rintro ⟨k1, k2⟩ r hr pr
   rcases List.mem_append.1 hr with hr | hr
   ·exact k1 r hr pr
   ·obtain rfl : r = p := by simpa using hr
    exact k2
  ·exact fun k => ⟨fun r hr pr => k r (List.mem_append_left _ hr) pr, k p ahZ hp⟩
theorem Np.cur {js : List Nat} {next : Int} (h : Np ord D js next) (hn : 0 ≤ next) : ∃ c : Nat, next = (c : Int) ∧ c ∈ ord ∧ jf D c := by
 rcases h with ⟨h1, _⟩ | ⟨c, h1, h2, h3, _⟩
 ·omega
 ·exact ⟨c, h1, h2, h3⟩
theorem Np.stp (g : Gr n nx ord pos) {js : List Nat} {next : Int} {b : Nat} (h : Np ord D js next) (OY : ∀ p ∈ ord, b ∈ nx p → p ∈ js) (QL : ∀ p ∈ js, jf D p → b ∈ nx p) (zk : ∀ p, jf D p → p ∈ ord) (hb : b ∈ ord) (h0 : b ≠ 0) (M6 : ∀ p ∈ ord, pos p < pos b → jf D p) :
  ∃ c : Nat, next = (c : Int) ∧ NI nx ord pos D b c := by
 obtain ⟨p, h1, h2, h3⟩ := g.tree b hb h0
 rcases h with ⟨_, h4⟩ | ⟨c, rfl, _, _, _, h5⟩
 ·exact absurd (M6 p h1 h3) (h4 p (OY p h1 h2))
 ·exact ⟨c, rfl, hb, h0, fun x => (h5 x).trans ⟨fun k q hq pq => k q (OY q (zk q pq) hq) pq, fun k q hq pq => k q (QL q hq pq) pq⟩, M6⟩
theorem TI.B8 (g : Gr n nx ord pos) (t : TI n nx ord pos D) {p : Nat} (h : jf D p) : p ∈ ord := by
 rcases h with rfl | h
 ·exact g.zero
 ·exact (t.up p _ (Int.toNat_of_nonneg h).symm).1
structure tL (n : Nat) (nx : Nat → List Nat) (ord : List Nat) (pos : Nat → Nat) (k i : Nat) (D : List Int) (ch : Bool) : Prop where
 ti : TI n nx ord pos D
 uf : UF nx ord pos D k i
 prev : ∀ p ∈ ord, pos p < i → jf D p
 all : 0 < k → ∀ p ∈ ord, jf D p
 fix : ch = false → ∀ b ∈ ord, pos b < i → b ≠ 0 → ∃ c : Nat, D.getD b (-1) = (c : Int) ∧ Y5 nx D b c
 stop : n < k → ch = false
theorem tL.init (g : Gr n nx ord pos) : tL n nx ord pos 0 1 (List.replicate n (-1)) false := by
 have hD : ∀ b, (List.replicate n (-1 : Int)).getD b (-1) = -1 := fun b => by
  rw [List.getD, List.getElem?_replicate]
  split <;> rfl
 have z : ∀ p ∈ ord, pos p < 1 → p = 0 := fun p hp h => g.inj hp g.zero (by rw [g.Dz]; omega)
 exact ⟨.first ahZ hD, .first g hD, fun p hp h => .inl (z p hp h), fun h => by omega, fun _ b hb h h0 => absurd (z b hb h) h0, fun h => rfl⟩
theorem Ge {b c : Nat} (hb : b < D.length) (h : D.getD b (-1) = (c : Int)) : D.set b (c : Int) = D := by
 have : D[b] = (c : Int) := by simpa [List.getD, List.getElem?_eq_getElem hb] using h
 rw [← this]
 exact List.set_getElem_self hb
theorem tL.same (g : Gr n nx ord pos) {k b c : Nat} {ch : Bool} (s : tL n nx ord pos k (pos b) D ch) (h : NI nx ord pos D b c) (he : D.getD b (-1) = (c : Int)) : tL n nx ord pos k (pos b + 1) D ch := by
 have hbl : b < D.length := by rw [s.ti.len]; exact g.lt b h.hb
 have h1 := s.uf.step g s.ti h s.all
 rw [Ge hbl he] at h1
 refine ⟨s.ti, h1, fun p hp hi => ?_, s.all, fun hc p hp hi h0 => ?_, s.stop⟩
 ·by_cases e : pos p = pos b
  ·obtain rfl := g.inj hp h.hb e
   exact .inr (by rw [he]; omega)
  ·exact s.prev p hp ahU
 ·by_cases e : pos p = pos b
  ·obtain rfl := g.inj hp h.hb e
   exact ⟨c, he, h.QB⟩
  ·exact s.fix hc p hp ahU h0
theorem tL.change (g : Gr n nx ord pos) {k b c : Nat} {ch : Bool} (s : tL n nx ord pos k (pos b) D ch) (h : NI nx ord pos D b c) (he : D.getD b (-1) ≠ (c : Int)) : tL n nx ord pos k (pos b + 1) (D.set b (c : Int)) true := by
 have hbl : b < D.length := by rw [s.ti.len]; exact g.lt b h.hb
 refine ⟨s.ti.step g h, s.uf.step g s.ti h s.all, fun p hp hi => ?_, fun hk p hp => qL (s.all hk p hp), fun hc => (by cases hc), fun hk => ?_⟩
 ·by_cases e : pos p = pos b
  ·obtain rfl := g.inj hp h.hb e
   exact .inr (by rw [qH hbl]; omega)
  ·exact qL (s.prev p hp ahU)
 ·have ha := s.all ahU
  exact absurd ((s.uf.exact g s.ti hk ha).same g s.ti ha h) he
theorem tL.next (g : Gr n nx ord pos) {k : Nat} (s : tL n nx ord pos k ord.length D true) : k ≤ n ∧ tL n nx ord pos (k + 1) 1 D false := by
 have hall : ∀ p ∈ ord, jf D p := fun p hp => s.prev p hp (List.getElem?_eq_some_iff.1 (g.idx hp)).1
 have z : ∀ p ∈ ord, pos p < 1 → p = 0 := fun p hp h => g.inj hp g.zero (by rw [g.Dz]; omega)
 refine ⟨?_, s.ti, s.uf.next g, fun p hp _ => hall p hp, fun _ => hall, fun _ b hb h h0 => absurd (z b hb h) h0, fun _ => rfl⟩
 by_cases h : n < k
 ·have := s.stop h; cases this
 ·omega
structure gD (n : Nat) (nx : Nat → List Nat) (ord : List Nat) (pos : Nat → Nat) (D : List Int) : Prop where
 ti : TI n nx ord pos D
 all : ∀ p ∈ ord, jf D p
 ex : Exact nx ord D
theorem tL.done (g : Gr n nx ord pos) {k : Nat} (s : tL n nx ord pos k ord.length D false) : gD n nx ord pos D := by
 have hlt : ∀ p ∈ ord, pos p < ord.length := fun p hp => (List.getElem?_eq_some_iff.1 (g.idx hp)).1
 have hall : ∀ p ∈ ord, jf D p := fun p hp => s.prev p hp (hlt p hp)
 exact ⟨s.ti, hall, wq g s.ti hall fun b hb h0 => s.fix rfl b hb (hlt b hb) h0⟩
end
end
section
def jy (n : Nat) (ord : List Nat) (pos : Nat → Nat) (i : Nat) : List Int := (List.range n).map fun b => if b ∈ ord.take i then (pos b : Int) else -1
theorem xT (n : Nat) (ord : List Nat) (pos : Nat → Nat) (i : Nat) : (jy n ord pos i).length = n := by simp [jy]
theorem uz (n : Nat) (ord : List Nat) (pos : Nat → Nat) : jy n ord pos 0 = List.replicate n (-1) := by
 apply List.ext_getElem
 ·simp [jy]
 ·intro i h1 h2; simp [jy]
theorem KD {n : Nat} {ord : List Nat} {pos : Nat → Nat} {i b : Nat} (hb : b < n) : (jy n ord pos i).getD b (-1) = if b ∈ ord.take i then (pos b : Int) else -1 := by
 rw [List.getD, jy, List.getElem?_map, List.getElem?_range hb]; rfl
theorem uA {n : Nat} {nx : Nat → List Nat} {ord : List Nat} {pos : Nat → Nat} (g : Gr n nx ord pos) {i b : Nat} (hb : ord[i]? = some b) : (jy n ord pos i).set b (i : Int) = jy n ord pos (i + 1) := by
 apply List.ext_getElem
 ·simp [jy]
 ·intro j h1 h2
  obtain ⟨hi, rfl⟩ := List.getElem?_eq_some_iff.1 hb
  have hj : j < n := by simpa [jy] using h2
  rw [List.getElem_set]
  simp only [jy, List.getElem_map, List.getElem_range]
  by_cases e : ord[i] = j
  ·have hp := g.at_ i _ hb
   rw [if_pos e, if_pos (by rw [← e]; exact List.mem_take_iff_getElem.2 ⟨i, by omega, rfl⟩), ← e, hp]
  ·rw [if_neg e]
   have : j ∈ ord.take (i + 1) ↔ j ∈ ord.take i := by
    rw [List.take_succ_eq_append_getElem hi, List.mem_append]
    simp [Ne.symm e]
   simp only [this]
theorem nS {n : Nat} {nx : Nat → List Nat} {ord : List Nat} {pos : Nat → Nat} (g : Gr n nx ord pos) {b : Nat} (hb : b < n) : (jy n ord pos ord.length).getD b (-1) = if b ∈ ord then (pos b : Int) else -1 := by
 rw [KD hb, List.take_length]
inductive NN (pv : Nat → List Nat) (R : Nat → Prop) (h : Nat) (gO : List Nat) : Nat → Prop
 | hd : NN pv R h gO h
 | lt {l : Nat} : l ∈ gO → R l → NN pv R h gO l
 | up {b p : Nat} : NN pv R h gO b → b ≠ h → p ∈ pv b → R p → NN pv R h gO p
structure Kb (pv : Nat → List Nat) (R : Nat → Prop) (b : Nat) (S S' : Nat → Prop) : Prop where
 grow : ∀ x, S x → S' x
 has : R b → S' b
 BP : ∀ x, S' x → S x ∨ R x
 closed : ∀ x, S' x → ¬ S x → ∀ p ∈ pv x, R p → S' p
 least : ∀ Q : Nat → Prop, Q b → (∀ x, Q x → S' x → ¬ S x → ∀ p ∈ pv x, Q p) → ∀ x, S' x → S x ∨ Q x
structure ug (pv : Nat → List Nat) (R : Nat → Prop) (bs : List Nat) (S S' : Nat → Prop) : Prop where
 grow : ∀ x, S x → S' x
 has : ∀ b ∈ bs, R b → S' b
 BP : ∀ x, S' x → S x ∨ R x
 closed : ∀ x, S' x → ¬ S x → ∀ p ∈ pv x, R p → S' p
 least : ∀ Q : Nat → Prop, (∀ b ∈ bs, Q b) → (∀ x, Q x → S' x → ¬ S x → ∀ p ∈ pv x, Q p) → ∀ x, S' x → S x ∨ Q x
section
variable {pv : Nat → List Nat} {R : Nat → Prop} {S S' NJ : Nat → Prop} {b : Nat} {bs : List Nat}
theorem Kb.skip (h : S b ∨ ¬ R b) : Kb pv R b S S :=
 ⟨fun _ h => h, fun hr => h.elim id fun hn => absurd hr hn, fun _ h => .inl h, fun x h hn => absurd h hn, fun Q _ _ x h => .inl h⟩
theorem ug.nil : ug pv R [] S S :=
 ⟨fun _ h => h, by simp, fun _ h => .inl h, fun x h hn => absurd h hn, fun Q _ _ x h => .inl h⟩
theorem ug.snoc (h : ug pv R bs S S') (k : Kb pv R b S' NJ) : ug pv R (bs ++ [b]) S NJ := by
 refine ⟨fun x hx => k.grow x (h.grow x hx), fun x hx hr => ?_, fun x hx => ?_, fun x hx hn p hp hr => ?_, fun Q hQ hc x hx => ?_⟩
 ·rcases List.mem_append.1 hx with hx | hx
  ·exact k.grow x (h.has x hx hr)
  ·obtain rfl : x = b := by simpa using hx
   exact k.has hr
 ·rcases k.BP x hx with h1 | h1
  ·exact h.BP x h1
  ·exact .inr h1
 ·by_cases h1 : S' x
  ·exact k.grow p (h.closed x h1 hn p hp hr)
  ·exact k.closed x hx h1 p hp hr
 ·have e1 := h.least Q (fun c hc => hQ c (List.mem_append_left _ hc)) fun y hy h1 h2 => hc y hy (k.grow y h1) h2
  rcases k.least Q (hQ b ahZ) (fun y hy h1 h2 => hc y hy h1 fun h3 => h2 (h.grow y h3)) x hx with h1 | h1
  ·exact e1 x h1
  ·exact .inr h1
theorem Kb.of (hr : R b) (hn : ¬ S b) (h : ug pv R (pv b) (fun x => S x ∨ x = b) S') : Kb pv R b S S' := by
 refine ⟨fun x hx => h.grow x (.inl hx), fun _ => h.grow b (.inr rfl), fun x hx => ?_, fun x hx fc p hp QJ => ?_, fun Q hQ hc x hx => ?_⟩
 ·rcases h.BP x hx with (h1 | rfl) | h1
  ·exact .inl h1
  ·exact .inr hr
  ·exact .inr h1
 ·by_cases hxb : x = b
  ·subst hxb; exact h.has p hp QJ
  ·exact h.closed x hx (fun h1 => h1.elim fc hxb) p hp QJ
 ·rcases h.least Q (fun p hp => hc b hQ (h.grow b (.inr rfl)) hn p hp) (fun y hy h1 h2 => hc y hy h1 fun h3 => h2 (.inl h3)) x hx with (h1 | rfl) | h1
  ·exact .inl h1
  ·exact .inr hQ
  ·exact .inr h1
theorem ug.body {h : Nat} {gO : List Nat} (hr : R h) (v : ug pv R gO (fun x => x = h) S') (x : Nat) : S' x ↔ NN pv R h gO x := by
 constructor
 ·intro hx
  have hR : R x := by
   rcases v.BP x hx with rfl | h1
   ·exact hr
   ·exact h1
  rcases v.least (fun y => R y → NN pv R h gO y) (fun b hb h1 => .lt hb h1) (fun y hy h1 h2 p hp h3 => .up (hy (by
   rcases v.BP y h1 with rfl | h4
   ·exact hr
   ·exact h4)) h2 hp h3) x hx with rfl | h1
  ·exact .hd
  ·exact h1 hR
 ·intro hx
  induction hx with
  | hd => exact v.grow h rfl
  | lt hl h1 => exact v.has _ hl h1
  | up _ h1 h2 h3 ih => exact v.closed _ ih h1 _ h2 h3
end
end
section
open Go.RowKit
theorem A3 {n : Nat} {nx : Nat → List Nat} {ord : List Nat} {pos : Nat → Nat} {D : List Int} (gr : Gr n nx ord pos) (ti : TI n nx ord pos D) (hn5 : n ≤ 5000) (pq pb iq ib a0 b0 : Nat) (w : World)
  (cp : w.cell? ⟨pq, 0, none⟩ = some (.slice (some ⟨pb, 0, none⟩) n n)) (ci : w.cell? ⟨iq, 0, none⟩ = some (.slice (some ⟨ib, 0, none⟩) n n)) (hp : ∀ k ∈ ord, w.cell? ⟨pb, k, none⟩ = some (.int .i64 (pos k : Int))) (hd : ∀ k, k < n → w.cell? ⟨ib, k, none⟩ = some (.int .i64 (D.getD k (-1)))) (sp : pq < w.heap.size) (RM : pb < w.heap.size) (si : iq < w.heap.size) (Xl : ib < w.heap.size) (ha : a0 ∈ ord) (pa : jf D a0) (hb : b0 ∈ ord) (pb0 : jf D b0) :
  Calls Tryz.prog 68 #[.int .i64 (a0 : Int), .int .i64 (b0 : Int), .pointer (some ⟨pq, 0, none⟩), .pointer (some ⟨iq, 0, none⟩)] w fun e w' => ∃ c : Nat, e = .returned (.int .i64 (c : Int)) ∧ c ∈ ord ∧ jf D c ∧ (∀ x, bR D c x ↔ bR D a0 x ∧ bR D b0 x) ∧ Below w.heap.size w w' := by
 have GR := aiU gr
 have TI := aiU ti
 have HP := aiU hp
 have HD := aiU hd
 have WT := aiU (show Cm ord D a0 b0 a0 b0 from ⟨ha, pa, hb, pb0, fun _ => Iff.rfl⟩)
 clear gr ti hp hd ha pa hb pb0
 have he : ∀ (args : Array Value) (w : World), (callFunc 68 args).run Tryz.prog w = .ok (.enter 68 args) w := fun _ _ => by kernel_rfl
 go_enter Tryz.func68, Tryz.ntmps68
 go_upto_region 1 with fail
 go_loopw [0, 1] (fun s0 s1 wr => ∃ a b : Nat, s0 = .int .i64 (a : Int) ∧ s1 = .int .i64 (b : Int) ∧ Cm ord D a0 b0 a b ∧ Below w.heap.size w wr) (fun s0 s1 _ => pos (intOf s0).toNat + pos (intOf s1).toNat)
 case atStart => exact ⟨a0, b0, rfl, rfl, WT.out, Below.refl _ _⟩
 case round =>
  obtain ⟨a, b, rfl, rfl, hc, hb⟩ := hrel
  have HC := aiU hc
  have HB := aiU hb
  have hsz := hb.size
  by_cases hab : a = b
  ·subst hab
   have d1 : ((a : Int) != (a : Int)) = false := by simp
   have U7 := aiU hc.done
   clear hc hb
   go_wp2_with fail
   go_ret
   exact ⟨a, rfl, HC.out.ha, HC.out.pa, U7.out, HB.out⟩
  ·have d1 : ((a : Int) != (b : Int)) = true := by simp; omega
   have hal := GR.out.lt a hc.ha
   have hbl := GR.out.lt b hc.hb
   have p1 : wr.cell? ⟨pb, a, none⟩ = some (.int .i64 (pos a : Int)) := (hb.cell (p := ⟨pb, a, none⟩) RM).trans (HP.out a hc.ha)
   have p2 : wr.cell? ⟨pb, b, none⟩ = some (.int .i64 (pos b : Int)) := (hb.cell (p := ⟨pb, b, none⟩) RM).trans (HP.out b hc.hb)
   have p3 : wr.cell? ⟨pq, 0, none⟩ = some (.slice (some ⟨pb, 0, none⟩) n n) := (hb.cell (p := ⟨pq, 0, none⟩) sp).trans cp
   have p4 : wr.cell? ⟨iq, 0, none⟩ = some (.slice (some ⟨ib, 0, none⟩) n n) := (hb.cell (p := ⟨iq, 0, none⟩) si).trans ci
   have s1 : pb < wr.heap.size := by omega
   have s2 : pq < wr.heap.size := by omega
   have s3 : iq < wr.heap.size := by omega
   have s4 : ib < wr.heap.size := by omega
   have i1 : (a : Int) < (n : Int) := by omega
   have i2 : (b : Int) < (n : Int) := by omega
   by_cases hgt : pos b < pos a
   ·have d2 : decide ((pos b : Int) < (pos a : Int)) = true := decide_eq_true ahU
    have d3 : decide (pos b < pos a) = true := decide_eq_true hgt
    obtain ⟨a', e1, e2, e3⟩ := hc.left GR.out TI.out hgt
    have p5 : wr.cell? ⟨ib, a, none⟩ = some (.int .i64 (a' : Int)) := by rw [← e1]; exact (hb.cell (p := ⟨ib, a, none⟩) Xl).trans (HD.out a hal)
    have Z8 := aiU e3
    obtain ⟨qa, En⟩ : ∃ q, pos a = q := ⟨_, rfl⟩
    obtain ⟨qb, Aq⟩ : ∃ q, pos b = q := ⟨_, rfl⟩
    have HE := aiU (And.intro e2 (And.intro En Aq))
    rw [En] at p1 d2 d3
    rw [Aq] at p2 d2 d3
    clear hc hb e1 e2 e3 hgt hab En Aq WT cp ci
    go_upto_region 2 with fail
    refine aj ahV ahV ?_
    repeat (go_big_quiet_step (fail))
    refine wpQuiet_nil ?_
    rintro _ ⟨y, rfl⟩
    have q4 := y.cell iq 0 s3
    have q5 := y.cell ib a s4
    rw [p4] at q4
    rw [p5] at q5
    clear p1 p2 p3 p4 p5
    go_wp2_with fail
    go_roundw
    case rel => exact ⟨a', b, rfl, rfl, Z8.out, HB.out.trans (y.h.mono hsz)⟩
    case measure => have := HE.out; simp [intOf]; omega
   ·have d2 : decide ((pos b : Int) < (pos a : Int)) = false := decide_eq_false ahU
    have d3 : decide (pos b < pos a) = false := decide_eq_false hgt
    obtain ⟨b', e1, e2, e3⟩ := hc.right GR.out TI.out hab hgt
    have p5 : wr.cell? ⟨ib, b, none⟩ = some (.int .i64 (b' : Int)) := by rw [← e1]; exact (hb.cell (p := ⟨ib, b, none⟩) Xl).trans (HD.out b hbl)
    have Z8 := aiU e3
    obtain ⟨qa, En⟩ : ∃ q, pos a = q := ⟨_, rfl⟩
    obtain ⟨qb, Aq⟩ : ∃ q, pos b = q := ⟨_, rfl⟩
    have HE := aiU (And.intro e2 (And.intro En Aq))
    rw [En] at p1 d2 d3
    rw [Aq] at p2 d2 d3
    clear hc hb e1 e2 e3 hgt hab En Aq WT cp ci
    go_upto_region 2 with fail
    refine aj ahV ahV ?_
    repeat (go_big_quiet_step (fail))
    refine wpQuiet_nil ?_
    rintro _ ⟨y, rfl⟩
    have q4 := y.cell iq 0 s3
    have q5 := y.cell ib b s4
    rw [p4] at q4
    rw [p5] at q5
    clear p1 p2 p3 p4 p5
    go_wp2_with fail
    go_roundw
    case rel => exact ⟨a, b', rfl, rfl, Z8.out, HB.out.trans (y.h.mono hsz)⟩
    case measure => have := HE.out; simp [intOf]; omega
end
section
open Go.RowKit
theorem fM {w : World} {B g m cap : Nat} {l : List Int} (h : w.ownsRow B 3 1 (.slice (some ⟨g, 0, none⟩) m cap) m (dU l)) (hl : l.length = m) {k : Nat} (hk : k < m) : w.cell? ⟨g, k, none⟩ = some (.int .i64 (l.getD k (-1))) := by
 rw [h.cellAt _ ahU, dU, List.getElem?_map, List.getD, List.getElem?_eq_getElem (by omega : k < l.length)]; rfl
structure wP (V wr : World) (iq ib pq pb n : Nat) (D P : List Int) : Prop where
 aD : Below V.heap.size V wr
 MP : wr.heap[iq]? = some (.cells #[.slice (some ⟨ib, 0, none⟩) n n] 38 (0, 0))
 Ed : wr.heap[pq]? = some (.cells #[.slice (some ⟨pb, 0, none⟩) n n] 38 (0, 0))
 ri : wr.ownsRow V.heap.size 3 1 (.slice (some ⟨ib, 0, none⟩) n n) n (dU D)
 rp : wr.ownsRow V.heap.size 3 1 (.slice (some ⟨pb, 0, none⟩) n n) n (dU P)
 ne : ib ≠ pb
 ld : D.length = n
 lp : P.length = n
section
variable {V wr wr' : World} {iq ib pq pb n : Nat} {D P : List Int}
theorem wP.below (h : wP V wr iq ib pq pb n D P) (hb : Below wr.heap.size wr wr') : wP V wr' iq ib pq pb n D P :=
 ⟨h.aD.trans (hb.mono h.aD.size), (hb.block iq (Array.getElem?_eq_some_iff.1 h.MP).1).trans h.MP, (hb.block pq (Array.getElem?_eq_some_iff.1 h.Ed).1).trans h.Ed, ak h.ri hb, ak h.rp hb, h.ne, h.ld, h.lp⟩
theorem wP.cells (h : wP V wr iq ib pq pb n D P) : wr.cell? ⟨iq, 0, none⟩ = some (.slice (some ⟨ib, 0, none⟩) n n) ∧ wr.cell? ⟨pq, 0, none⟩ = some (.slice (some ⟨pb, 0, none⟩) n n) ∧ iq < wr.heap.size ∧ pq < wr.heap.size ∧ ib < wr.heap.size ∧ pb < wr.heap.size :=
 ⟨by simp [World.cell?, h.MP], by simp [World.cell?, h.Ed], (Array.getElem?_eq_some_iff.1 h.MP).1, (Array.getElem?_eq_some_iff.1 h.Ed).1, (h.ri.lt ib rfl).2, (h.rp.lt pb rfl).2⟩
theorem wP.RP (h : wP V wr iq ib pq pb n D P) (k : Nat) (x : Int) : wP V (wr.setCell ⟨ib, k, none⟩ (.int .i64 x)) iq ib pq pb n (D.set k x) P := by
 have e1 : iq ≠ ib := dZ h.MP h.ri ahW ∘ fun e => by rw [e]; rfl
 have e2 : pq ≠ ib := dZ h.Ed h.ri ahW ∘ fun e => by rw [e]; rfl
 have r := (h.ri.stored k (.int .i64 x)).1
 rw [j5] at r
 exact ⟨h.aD.setCell (p := ⟨ib, k, none⟩) (h.ri.lt ib rfl).1 _, by rw [Below.heap_setCell _ _ _ _ e1]; exact h.MP, by rw [Below.heap_setCell _ _ _ _ e2]; exact h.Ed, r, h.rp.kept (aQ wr ib k _) (.inr fun e => h.ne (by injection e with e; exact e.symm)), h.ne, by simp [h.ld], h.lp⟩
theorem wP.RO (h : wP V wr iq ib pq pb n D P) (k : Nat) (x : Int) : wP V (wr.setCell ⟨pb, k, none⟩ (.int .i64 x)) iq ib pq pb n D (P.set k x) := by
 have e1 : iq ≠ pb := dZ h.MP h.rp ahW ∘ fun e => by rw [e]; rfl
 have e2 : pq ≠ pb := dZ h.Ed h.rp ahW ∘ fun e => by rw [e]; rfl
 have r := (h.rp.stored k (.int .i64 x)).1
 rw [j5] at r
 exact ⟨h.aD.setCell (p := ⟨pb, k, none⟩) (h.rp.lt pb rfl).1 _, by rw [Below.heap_setCell _ _ _ _ e1]; exact h.MP, by rw [Below.heap_setCell _ _ _ _ e2]; exact h.Ed, h.ri.kept (aQ wr pb k _) (.inr fun e => h.ne (by injection e with e)), r, h.ne, h.ld, by simp [h.lp]⟩
end
def jL (n k : Nat) : List Int := (List.range n).map fun i => if i < k then -1 else 0
theorem oX (n : Nat) : jL n 0 = List.replicate n 0 := by
 apply List.ext_getElem
 ·simp [jL]
 ·intro i h1 h2; simp [jL]
theorem xV (n : Nat) : jL n n = List.replicate n (-1) := by
 apply List.ext_getElem
 ·simp [jL]
 ·intro i h1 h2
  have : i < n := by simpa [jL] using h1
  simp [jL, this]
theorem uF (n k : Nat) : (jL n k).set k (-1) = jL n (k + 1) := by
 apply List.ext_getElem
 ·simp [jL]
 ·intro i h1 h2
  rw [List.getElem_set]
  simp only [jL, List.getElem_map, List.getElem_range]
  by_cases e : k = i
  ·rw [if_pos e, if_pos ahU]
  ·rw [if_neg e]
   by_cases h3 : i < k
   ·rw [if_pos h3, if_pos ahU]
   ·rw [if_neg h3, if_neg ahU]
theorem xZ {nx : List Int} {p k : Nat} {x : Int} : x ∈ nI nx p k ↔ x = (k : Int) ∧ (p : Int) ∈ nx := by
 unfold nI
 rw [List.mem_map]
 constructor
 ·rintro ⟨a, ha, rfl⟩
  have := List.mem_filter.1 ha
  exact ⟨rfl, by have h2 := of_decide_eq_true this.2; rw [← h2]; exact this.1⟩
 ·rintro ⟨rfl, h⟩
  exact ⟨p, List.mem_filter.2 ⟨h, by simp⟩, rfl⟩
theorem rU {G : List aU} {k p : Nat} {x : Int} : x ∈ vG G k p ↔ ∃ b, b < k ∧ x = (b : Int) ∧ (p : Int) ∈ (G.getD b ⟨0, 0, []⟩).nx := by
 unfold vG
 rw [List.mem_flatMap]
 constructor
 ·rintro ⟨b, hb, h⟩
  obtain ⟨h1, h2⟩ := xZ.1 h
  exact ⟨b, List.mem_range.1 hb, h1, h2⟩
 ·rintro ⟨b, hb, h1, h2⟩
  exact ⟨b, List.mem_range.2 hb, xZ.2 ⟨h1, h2⟩⟩
def mA (P : List (List Int)) (b : Nat) : List Nat := (P.getD b []).map Int.toNat
theorem BS {G : List aU} {P : List (List Int)} (hV : bQ G P) {b p : Nat} (hb : b < G.length) : (p ∈ mA P b ↔ p < G.length ∧ b ∈ cM G p) ∧ (∀ x ∈ P.getD b [], 0 ≤ x ∧ x < (G.length : Int)) := by
 have hP : P.getD b [] = vG G G.length b := by
  rw [← hV.prev, List.getD, List.getElem?_map, List.getElem?_range hb]
  simp [gw, nI]
 have hnn : ∀ q, q < G.length → ∀ x ∈ (G.getD q ⟨0, 0, []⟩).nx, 0 ≤ x := fun q hq x hx => by
  obtain ⟨z, hz⟩ := hV.ok
  have hx2 : G[q]? = some G[q] := List.getElem?_eq_getElem hq
  rw [List.getD, hx2] at hx
  obtain ⟨e, he⟩ := hz.each _ (List.mem_of_getElem? hx2)
  exact (he.nx x hx).1
 unfold mA cM
 rw [hP]
 refine ⟨⟨fun h => ?_, fun ⟨h1, h2⟩ => ?_⟩, fun x hx => ?_⟩
 ·obtain ⟨x, hx, rfl⟩ := List.mem_map.1 h
  obtain ⟨q, hq, rfl, h2⟩ := rU.1 hx
  rw [Int.toNat_natCast]
  exact ⟨hq, List.mem_map.2 ⟨_, h2, Int.toNat_natCast b⟩⟩
 ·obtain ⟨x, hx, rfl⟩ := List.mem_map.1 h2
  have := hnn p h1 x hx
  exact List.mem_map.2 ⟨(p : Int), rU.2 ⟨p, h1, rfl, by rw [Int.toNat_of_nonneg this]; exact hx⟩, Int.toNat_natCast p⟩
 ·obtain ⟨q, hq, rfl, _⟩ := rU.1 hx
  omega
theorem LI (g m c : Nat) (w : World) : (binOp .eql 38 (.slice (some ⟨g, 0, none⟩) m c) (.slice none 0 0)).run Tryz.prog w = .ok (.bool false) w := by kernel_rfl
theorem oD {w : World} {g m cap k : Nat} {l : List Int} (h : Ints w (.slice (some ⟨g, 0, none⟩) m cap) l) (hk : k < l.length) : l.length = m ∧ g < w.heap.size ∧ w.cell? ⟨g, k, none⟩ = some (.int .i64 (l.getD k 0)) := by
 obtain ⟨A, cap', hv, _, _, h4⟩ := h
 cases hv
 obtain ⟨b, off, e, hlt, hc⟩ := h4 ahU
 cases e
 have := hc k hk
 rw [Nat.zero_add] at this
 exact ⟨rfl, hlt, this⟩
theorem vM {l : List Nat} {i b : Nat} (h : l[i]? = some b) : (cm l).getD i 0 = (b : Int) := by simp [cm, List.getD, h]
def eO (G : List aU) (D : List Int) : Prop := gD G.length (cM G) (dK G.length (cM G)) (fO G.length (cM G)) D
theorem xy (bv pv : Value) (G : List aU) (P : List (List Int)) (w : World) (HG : fL w bv G) (HP : mG w pv P) (HV : bQ G P) (hn : G.length ≤ 5000) :
  Calls Tryz.prog 37 #[.agg #[bv, pv]] w fun e w' => (∃ v D, e = .returned v ∧ Ints w' v D ∧ eO G D) ∧ Below w.heap.size w w' := by
 have HB := aiU (GB.of HV hn)
 have hne : 0 < G.length := List.length_pos_iff.2 HV.ne
 obtain ⟨gr, JW⟩ := qg hne HB.out.lt
 have Jw := aiU HV
 have xe := aiU HV.len
 obtain ⟨A, cap, rfl, hc1, hc2⟩ := HG.slice
 obtain ⟨PA, aX, rfl, hp1, hp2⟩ := HP.slice
 obtain ⟨V0, gC⟩ : ∃ V0, w.alloc (.cells #[.slice A G.length cap, .slice PA P.length aX] 31) = V0 := ⟨_, rfl⟩
 obtain ⟨gq, J1⟩ : ∃ q, w.heap.size = q := ⟨_, rfl⟩
 have b0 : Below w.heap.size w V0 := gC ▸ (Below.refl _ _).alloc (Nat.le_refl _) _
 have k0 : V0.heap[gq]? = some (.cells #[.slice A G.length cap, .slice PA P.length aX] 31 (0, 0)) := by rw [← gC, ← J1]; exact heap_alloc_new _ _
 have y0 : V0.cell? ⟨gq, 0, none⟩ = some (.slice A G.length cap) := by simp [World.cell?, k0]
 have y1 : V0.cell? ⟨gq, 1, none⟩ = some (.slice PA P.length aX) := by simp [World.cell?, k0]
 have s0 : gq < V0.heap.size := (Array.getElem?_eq_some_iff.1 k0).1
 have HO := aiU (uC _ _ G P V0 (HG.below b0) (HP.below b0) HV hn)
 obtain ⟨ord, ho⟩ : ∃ o, dK G.length (cM G) = o := ⟨_, rfl⟩
 obtain ⟨pos, zk⟩ : ∃ o, fO G.length (cM G) = o := ⟨_, rfl⟩
 have HT := aiU (show ∀ D, gD G.length (cM G) ord pos D → eO G D from fun D h => by unfold eO; rw [ho, zk]; exact h)
 rw [ho, zk] at gr
 rw [ho] at HO JW
 have nQ := aiU gr
 have B0 := aiU b0
 have Qg := aiU (HP.below b0)
 have K0 := aiU k0
 have hol : ord.length ≤ G.length := fy JW gr.lt
 have ho0 : 0 < ord.length := (List.getElem?_eq_some_iff.1 gr.z).1
 clear HG HP HV b0 k0 hc1 hc2 hp1 gr ho zk JW
 obtain ⟨m, hm⟩ : ∃ m, ord.length = m := ⟨_, rfl⟩
 rw [hm] at HO hol ho0
 have HM := aiU hm
 clear hm
 have hnil := LI
 go_enter Tryz.func37, Tryz.ntmps37
 go_upto_region 4 with (go_at_call 36; refine HO.out.mono ?_; rintro e V ⟨⟨og, rP, rfl, Nb, -⟩, Cj⟩)
 have N2 := aiU Nb
 have hcm : m ≤ rP := by
  obtain ⟨A', cap', e1, e2, _⟩ := Nb
  cases e1
  exact e2
 have b1 : Below w.heap.size w V := B0.out.trans (Cj.mono B0.out.size)
 have v0 : V.cell? ⟨gq, 0, none⟩ = some (.slice A G.length cap) := (Cj.cell (p := ⟨gq, 0, none⟩) s0).trans y0
 have v1 : V.cell? ⟨gq, 1, none⟩ = some (.slice PA P.length aX) := (Cj.cell (p := ⟨gq, 1, none⟩) s0).trans y1
 have sg : gq < V.heap.size := by have := Cj.size; omega
 have Uz := aiU (Qg.out.below Cj)
 have B1 := aiU b1
 clear Nb Cj y0 y1 b1 HO s0 gC K0
 obtain ⟨iI, p9, qd, oy, ox⟩ := info_parts ow
 obtain ⟨U1, lm, Od, gr1⟩ := run_make_full (P := Tryz.prog) V V.heap.size 38 3 iI (.int .i64 0) 1 Tryz.underlying38 p9 qd oy .i64 .i64 G.length aiQ ahY (Nat.le_refl _)
 rw [Nat.mul_one, show (Value.int .i64 0).cells = #[Value.int .i64 0] from rfl, toList_madeCells_one] at Od
 obtain ⟨ib, hib⟩ : ∃ q, V.heap.size = q := ⟨_, rfl⟩
 have CO := aiU Od
 rw [hib] at lm
 have HIB := aiU hib
 have zb := aiU gr1
 clear Od gr1 hib hnil
 go_upto_region 5 with fail
 obtain ⟨iq, Yd⟩ : ∃ q, U1.heap.size = q := ⟨_, rfl⟩
 obtain ⟨V2, hV2⟩ : ∃ V, U1.alloc (.cells #[.slice (some ⟨ib, 0, none⟩) G.length G.length] 38) = V := ⟨_, rfl⟩
 rw [hV2, Yd]
 have g1 := zb.out.size
 have TS : Below V.heap.size V V2 := hV2 ▸ ((Below.refl _ _).grown zb.out (Nat.le_refl _) (fun k hk => by cases hk)).alloc ahU _
 have Sm : V2.heap[iq]? = some (.cells #[.slice (some ⟨ib, 0, none⟩) G.length G.length] 38 (0, 0)) := by rw [← Yd, ← hV2]; exact heap_alloc_new _ _
 have ri2 := hV2 ▸ CO.out.alloc (.cells #[.slice (some ⟨ib, 0, none⟩) G.length G.length] 38)
 have u0 : V2.cell? ⟨gq, 0, none⟩ = some (.slice A G.length cap) := (TS.cell (p := ⟨gq, 0, none⟩) sg).trans v0
 have sg2 : gq < V2.heap.size := by have := TS.size; omega
 obtain ⟨U3, lm3, dQ, gr3⟩ := run_make_full (P := Tryz.prog) V2 V.heap.size 38 3 iI (.int .i64 0) 1 Tryz.underlying38 p9 qd oy .i64 .i64 G.length aiQ ahY TS.size
 rw [Nat.mul_one, show (Value.int .i64 0).cells = #[Value.int .i64 0] from rfl, toList_madeCells_one] at dQ
 obtain ⟨pb, hpb⟩ : ∃ q, V2.heap.size = q := ⟨_, rfl⟩
 have zu := aiU dQ
 rw [hpb] at lm3
 have HPB := aiU hpb
 have U0 := aiU gr3
 have Y1 := aiU ri2
 have Xg := aiU TS
 have Qa := aiU Sm
 clear dQ gr3 ri2 TS Sm lm hV2 Yd v0 CO zb g1 hpb
 go_upto_region 6 with fail
 obtain ⟨pq, hpq⟩ : ∃ q, U3.heap.size = q := ⟨_, rfl⟩
 obtain ⟨V4, qQ⟩ : ∃ V, U3.alloc (.cells #[.slice (some ⟨pb, 0, none⟩) G.length G.length] 38) = V := ⟨_, rfl⟩
 rw [qQ, hpq]
 have g3 := U0.out.size
 have r0 : dU (List.replicate G.length 0) = List.replicate G.length (Value.int .i64 0) := by simp [dU]
 have VN : wP V V4 iq ib pq pb G.length (jL G.length 0) (jL G.length 0) := by
  have siq : iq < V2.heap.size := (Array.getElem?_eq_some_iff.1 Qa.out).1
  have Xl : ib < V2.heap.size := by
   have := (Y1.out.lt _ rfl).2
   rw [HIB.out] at this
   exact this
  obtain rfl := HIB.out
  obtain rfl := HPB.out
  refine ⟨qQ ▸ (Xg.out.grown U0.out Xg.out.size (fun k hk => by cases hk)).alloc (by have := Xg.out.size; omega) _, ?_, by rw [← hpq, ← qQ]; exact heap_alloc_new _ _, ?_, ?_, by omega, by simp [jL], by simp [jL]⟩
  ·rw [← qQ, heap_alloc_old _ _ ahU]
   exact (U0.out.block iq siq ahZ).trans Qa.out
  ·rw [oX, r0, ← qQ]
   exact (Y1.out.kept U0.out (.inr aiD)).alloc _
  ·rw [oX, r0, ← qQ]
   exact zu.out.alloc _
 have Wo := aiU VN
 have c0 := VN.cells.1
 have c1 := VN.cells.2.2.1
 clear lm3 qQ hpq VN zu U0 Y1 Xg Qa u0 g3 r0 p9 qd oy ox iI
 go_upto_region 7 with fail
 go_loopw [30] (fun a30 wr => ∃ k : Nat, k ≤ G.length ∧ a30 = .int .i64 (k : Int) ∧ wP V wr iq ib pq pb G.length (jL G.length k) (jL G.length k)) (fun a30 _ => G.length - (intOf a30).toNat)
 case atStart => exact ⟨0, Nat.zero_le _, rfl, Wo.out⟩
 case round =>
  obtain ⟨k, hk, rfl, hT⟩ := hrel
  obtain ⟨t1, t2, t3, t4, t5, t6⟩ := hT.cells
  by_cases hlt : k < G.length
  ·have dl : decide ((k : Int) < (G.length : Int)) = true := decide_eq_true ahU
   have i1 : (k : Int) < (G.length : Int) := by omega
   have x1 := fM hT.ri hT.ld hlt
   have x2 := hT.ri.frozenAt k
   have h1 := hT.RP k (-1)
   have z1 := h1.cells
   have y1 := fM h1.rp h1.lp hlt
   have y2 := h1.rp.frozenAt k
   have h2 := h1.RO k (-1)
   rw [uF] at h2
   have H2 := aiU h2
   have z2 := z1.2.1
   have z3 := z1.2.2.2.1
   clear hT Wo c0 c1 h1 h2 z1
   obtain ⟨X, hX⟩ : ∃ X, wr.setCell ⟨ib, k, none⟩ (.int .i64 (-1)) = X := ⟨_, rfl⟩
   rw [hX] at y1 y2 z2 z3 H2
   go_upto_region 10 with fail
   clear x1 x2 t1 t2 t3 t4 t5 t6 hX
   go_wp2_with fail
   go_roundw
   case rel => exact ⟨k + 1, by omega, by go_num, H2.out⟩
   case measure => simp [intOf]; omega
  ·obtain rfl : k = G.length := by omega
   have dl : decide ((G.length : Int) < (G.length : Int)) = false := by simp
   rw [xV] at hT
   have Zj := aiU (show wP V wr iq ib pq pb G.length (List.replicate G.length (-1)) (jy G.length ord pos 0) by rw [uz]; exact hT)
   clear hT Wo c0 c1 t1 t2 t3 t4 t5 t6
   go_upto_region 13 with fail
   go_loopw [42] (fun a42 wr => ∃ i : Nat, i ≤ m ∧ a42 = .int .i64 (i : Int) ∧ wP V wr iq ib pq pb G.length (List.replicate G.length (-1)) (jy G.length ord pos i)) (fun a42 _ => m - (intOf a42).toNat)
   case atStart => exact ⟨0, Nat.zero_le _, rfl, Zj.out⟩
   case round =>
    obtain ⟨i, hi, rfl, hT⟩ := hrel
    obtain ⟨t1, t2, t3, t4, t5, t6⟩ := hT.cells
    by_cases hlt : i < m
    ·have dl : decide ((i : Int) < (m : Int)) = true := decide_eq_true ahU
     obtain ⟨b, hb⟩ : ∃ b, ord[i]? = some b := ⟨_, List.getElem?_eq_getElem ait⟩
     have lu := nQ.out.lt b (List.mem_of_getElem? hb)
     have oc : wr.cell? ⟨og, i, none⟩ = some (.int .i64 (b : Int)) := by
      obtain ⟨_, h1, h2⟩ := oD N2.out (k := i) (by rw [cm, List.length_map, HM.out]; exact hlt)
      rw [vM hb] at h2
      exact (hT.aD.cell (p := ⟨og, i, none⟩) h1).trans h2
     have i1 : (b : Int) < (G.length : Int) := by omega
     have x1 := fM hT.rp hT.lp lu
     have x2 := hT.rp.frozenAt b
     have h1 := hT.RO b (i : Int)
     rw [uA nQ.out hb] at h1
     have H1 := aiU h1
     clear hT Zj h1 hb
     go_wp2_with fail
     go_roundw
     case rel => exact ⟨i + 1, by omega, by go_num, H1.out⟩
     case measure => simp [intOf]; omega
    ·obtain rfl : m = i := by omega
     have dl : decide ((m : Int) < (m : Int)) = false := by simp
     rw [← HM.out] at hT
     have Zi := aiU hT
     clear hT Zj t1 t2 t3 t4 t5 t6
     go_upto_region 19 with fail
     go_loopg [10] (G.length + 2) (fun gk a10 wr => ∃ (k : Nat) (D : List Int), wP V wr iq ib pq pb G.length D (jy G.length ord pos ord.length) ∧ ((a10 = .bool true ∧ gk + k = G.length + 2 ∧ k ≤ G.length + 1 ∧ tL G.length (cM G) ord pos k 1 D false) ∨ (a10 = .bool false ∧ gk = 0 ∧ gD G.length (cM G) ord pos D)))
     case atStart => exact ⟨0, _, Zi.out, .inl ⟨rfl, rfl, by omega, tL.init nQ.out⟩⟩
     case round =>
      obtain ⟨k, D, hT, h⟩ := hrel
      obtain ⟨t1, t2, t3, t4, t5, t6⟩ := hT.cells
      rcases h with ⟨rfl, J2, hk, hP⟩ | ⟨rfl, -, hI⟩
      ·have Q8 := aiU hT
       have Ww := aiU hP
       have hm1 : (1 : Int) ≤ (m : Int) := by omega
       clear hT hP Zi t1 t2 t3 t4 t5 t6
       by_cases hoc : rP = 1
       ·subst hoc
        go_upto_region 22 with fail
        go_loopw [10, 57] (fun a10 a57 wr => ∃ (i : Nat) (D : List Int) (ch : Bool), i ≤ m - 1 ∧ a57 = .int .i64 (i : Int) ∧ a10 = .bool ch ∧ wP V wr iq ib pq pb G.length D (jy G.length ord pos ord.length) ∧ tL G.length (cM G) ord pos k (i + 1) D ch) (fun _ a57 _ => m - 1 - (intOf a57).toNat)
        case atStart => exact ⟨0, D, false, Nat.zero_le _, rfl, rfl, Q8.out, Ww.out⟩
        case round =>
         clear Q8 Ww D
         obtain ⟨i, D, ch, hi, rfl, rfl, hT, hP⟩ := hrel
         obtain ⟨t1, t2, t3, t4, t5, t6⟩ := hT.cells
         obtain rfl : i = m - 1 := by omega
         have dl : decide (((m - 1 : Nat) : Int) < (m : Int) - 1) = false := decide_eq_false ahU
         have Fz := aiU hT
         have UG := aiU (show tL G.length (cM G) ord pos k ord.length D ch by have := hP; rwa [show m - 1 + 1 = ord.length by rw [HM.out]; omega] at this)
         clear hT hP t1 t2 t3 t4 t5 t6
         rcases ch with _ | _
         ·have U7 := aiU (UG.out.done nQ.out)
          go_wp2_with fail
          go_roundg 0
          case measure => omega
          case rel => exact ⟨k, D, Fz.out, .inr ⟨rfl, rfl, U7.out⟩⟩
         ·obtain ⟨hkn, fc⟩ := UG.out.next nQ.out
          have mY := aiU fc
          clear fc
          go_wp2_with fail
          go_roundg (G.length + 2 - (k + 1))
          case measure => omega
          case rel => exact ⟨k + 1, D, Fz.out, .inl ⟨rfl, by omega, by omega, mY.out⟩⟩
       have aex : ¬ 1 = rP := fun e => hoc e.symm
       go_upto_region 22 with fail
       go_loopw [10, 57] (fun a10 a57 wr => ∃ (i : Nat) (D : List Int) (ch : Bool), i ≤ m - 1 ∧ a57 = .int .i64 (i : Int) ∧ a10 = .bool ch ∧ wP V wr iq ib pq pb G.length D (jy G.length ord pos ord.length) ∧ tL G.length (cM G) ord pos k (i + 1) D ch) (fun _ a57 _ => m - 1 - (intOf a57).toNat)
       case atStart => exact ⟨0, D, false, Nat.zero_le _, rfl, rfl, Q8.out, Ww.out⟩
       case round =>
        clear Q8 Ww D
        obtain ⟨i, D, ch, hi, rfl, rfl, hT, hP⟩ := hrel
        obtain ⟨t1, t2, t3, t4, t5, t6⟩ := hT.cells
        have hsz := hT.aD.size
        by_cases hlt : i < m - 1
        ·have dl : decide ((i : Int) < (m : Int) - 1) = true := decide_eq_true ahU
         have di1 : (i : Int) + 1 < (m : Int) := by omega
         have di2 : 1 + i < m := by omega
         obtain ⟨b, hb⟩ : ∃ b, ord[i + 1]? = some b := ⟨_, List.getElem?_eq_getElem (by rw [HM.out]; omega)⟩
         have O4 := List.mem_of_getElem? hb
         have lu := nQ.out.lt b O4
         have hpb := nQ.out.at_ _ _ hb
         have hb0 : b ≠ 0 := by rintro rfl; rw [nQ.out.Dz] at hpb; omega
         have oc : wr.cell? ⟨og, 1 + i, none⟩ = some (.int .i64 (b : Int)) := by
          obtain ⟨_, h1, h2⟩ := oD N2.out (k := i + 1) (by rw [cm, List.length_map, HM.out]; omega)
          rw [vM hb] at h2
          rw [Nat.add_comm 1 i]
          exact (hT.aD.cell (p := ⟨og, i + 1, none⟩) h1).trans h2
         have sog : og < wr.heap.size := by
          obtain ⟨_, h1, h2⟩ := oD N2.out (k := i + 1) (by rw [cm, List.length_map, HM.out]; omega)
          omega
         have g1 : wr.cell? ⟨gq, 1, none⟩ = some (.slice PA P.length aX) := (hT.aD.cell (p := ⟨gq, 1, none⟩) sg).trans v1
         have Xm : gq < wr.heap.size := by omega
         obtain ⟨pl, hpl⟩ : ∃ l, P.getD b [] = l := ⟨_, rfl⟩
         obtain ⟨pk, po, Tl, Xk, lv, pc1, hlv⟩ : ∃ pk po, PA = some ⟨pk, po, none⟩ ∧ pk < V.heap.size ∧ ∃ lv, V.cell? ⟨pk, po + b, none⟩ = some lv ∧ Ints V lv pl := by
          obtain ⟨_, _, e1, _, _, e4⟩ := Uz.out
          cases e1
          have Tg : b < P.length := by rw [xe.out]; exact lu
          obtain ⟨pk, po, e5, e6, e7⟩ := e4 ahU
          obtain ⟨lv, e8, e9⟩ := e7 b _ (List.getElem?_eq_getElem Tg)
          refine ⟨pk, po, e5, e6, lv, e8, ?_⟩
          rw [← hpl, List.getD, List.getElem?_eq_getElem Tg]
          exact e9
         subst Tl
         obtain ⟨LA, yc, hle, hl1, hl2⟩ := hlv.slice
         subst hle
         have pc2 : wr.cell? ⟨pk, po + b, none⟩ = some (.slice LA pl.length yc) := (hT.aD.cell (p := ⟨pk, po + b, none⟩) Xk).trans pc1
         have RL : pk < wr.heap.size := by omega
         have ibP : (b : Int) < (P.length : Int) := by rw [xe.out]; omega
         have UM := aiU hlv
         have Jy := aiU (fun p => BS (p := p) Jw.out lu)
         have BB := aiU hpl
         have HT4 := aiU hT
         have UH := aiU hP
         have Rt := aiU (And.intro O4 (And.intro hpb hb0))
         clear hT hP hb O4 hpb hb0 hlv pc1 hpl
         go_upto_region 26 with fail
         clear oc g1 pc2 t1 t2 dl
         go_loopw [13, 67] (fun a13 a67 wr => ∃ (j : Nat) (next : Int), j ≤ pl.length ∧ a67 = .int .i64 (j : Int) ∧ a13 = .int .i64 next ∧ Np ord D ((mA P b).take j) next ∧ wP V wr iq ib pq pb G.length D (jy G.length ord pos ord.length)) (fun _ a67 _ => pl.length - (intOf a67).toNat)
         case atStart => exact ⟨0, -1, Nat.zero_le _, rfl, rfl, Np.nil, HT4.out⟩
         case round =>
          clear HT4 t3 t4 t5 t6 hsz sog Xm RL
          obtain ⟨j, next, hj, rfl, rfl, hN, hT⟩ := hrel
          obtain ⟨t1, t2, t3, t4, t5, t6⟩ := hT.cells
          have HN := aiU hN
          have Fz := aiU hT
          by_cases hlt2 : j < pl.length
          ·obtain ⟨pv0, lb, lo, hs, Pj, RN, lc⟩ := UM.out.at_ hT.aD hlt2
           subst Pj
           have hpv := (Jy.out 0).2 pv0 (by rw [BB.out]; exact List.mem_of_getElem? hs)
           obtain ⟨p, rfl⟩ : ∃ p : Nat, pv0 = (p : Int) := ⟨pv0.toNat, by omega⟩
           have yu : p < G.length := by omega
           have lf : (mA P b).take (j + 1) = (mA P b).take j ++ [p] := by
            have : (mA P b)[j]? = some p := by unfold mA; rw [BB.out, List.getElem?_map, hs]; rfl
            rw [List.take_add_one, this]; rfl
           have jC := aiU lf
           have Vt : lb < wr.heap.size := by have := hT.aD.size; omega
           have dl2 : decide ((j : Int) < (pl.length : Int)) = true := decide_eq_true ahU
           have xd := fM hT.ri hT.ld yu
           obtain ⟨dp, hdp⟩ : ∃ d, D.getD p (-1) = d := ⟨_, rfl⟩
           rw [hdp] at xd
           have ip1 : (p : Int) < (G.length : Int) := by omega
           by_cases pF : jf D p
           ·have zk := UH.out.ti.B8 nQ.out pF
            have af4 := aiU pF
            have Kh := aiU zk
            have Ng : p = 0 ∨ (¬ p = 0 ∧ 0 ≤ dp) := by
             unfold jf at pF
             rw [hdp] at pF
             omega
            by_cases hnn : next < 0
            ·have HR := aiU (show Np ord D ((mA P b).take (j + 1)) (p : Int) by rw [lf]; exact hN.first hnn pF zk)
             have dn : decide (next < 0) = true := decide_eq_true hnn
             clear hN hT pF zk lf hdp hs hpv
             rcases Ng with h0 | ⟨h0, h1⟩
             ·have dz : ((p : Int) != 0) = false := by simp; omega
              clear h0
              go_wp2_with fail
              go_roundw
              case rel => exact ⟨j + 1, (p : Int), by omega, by go_num, rfl, HR.out, Fz.out⟩
              case measure => simp [intOf]; omega
             ·have dz : ((p : Int) != 0) = true := by simp; omega
              have dd : decide (dp < 0) = false := decide_eq_false ahU
              clear h0
              go_wp2_with fail
              go_roundw
              case rel => exact ⟨j + 1, (p : Int), by omega, by go_num, rfl, HR.out, Fz.out⟩
              case measure => simp [intOf]; omega
            ·obtain ⟨c, rfl, QO, Te⟩ := hN.cur ahU
             have dn : decide ((c : Int) < 0) = false := decide_eq_false hnn
             have Vd := aiU (A3 nQ.out UH.out.ti hn pq pb iq ib c p wr t2 t1 (fun k hk => by
              have h1 := fM hT.rp hT.lp (nQ.out.lt k hk)
              rw [nS nQ.out (nQ.out.lt k hk), if_pos hk] at h1
              exact h1) (fun k hk => fM hT.ri hT.ld hk) t4 t6 t3 t5 QO Te zk pF)
             have HJ := aiU (show ∀ d : Nat, d ∈ ord → jf D d → (∀ x, bR D d x ↔ bR D c x ∧ bR D p x) → Np ord D ((mA P b).take (j + 1)) (d : Int) from fun d h1 h2 h3 => by rw [lf]; exact hN.join ahU pF h1 h2 (by rw [Int.toNat_natCast]; exact h3))
             clear hN hT pF zk lf hdp hs hpv QO Te hnn
             rcases Ng with h0 | ⟨h0, h1⟩
             ·have dz : ((p : Int) != 0) = false := by simp; omega
              clear h0
              go_wp2_with (go_at_call 68; refine Vd.out.mono ?_; rintro e W9 ⟨d, rfl, hd1, hd2, hd3, hb9⟩)
              go_roundw
              case rel => exact ⟨j + 1, (d : Int), by omega, by go_num, rfl, HJ.out d hd1 hd2 hd3, Fz.out.below hb9⟩
              case measure => simp [intOf]; omega
             ·have dz : ((p : Int) != 0) = true := by simp; omega
              have dd : decide (dp < 0) = false := decide_eq_false ahU
              clear h0
              go_wp2_with (go_at_call 68; refine Vd.out.mono ?_; rintro e W9 ⟨d, rfl, hd1, hd2, hd3, hb9⟩)
              go_roundw
              case rel => exact ⟨j + 1, (d : Int), by omega, by go_num, rfl, HJ.out d hd1 hd2 hd3, Fz.out.below hb9⟩
              case measure => simp [intOf]; omega
           ·have hno : ¬ p = 0 ∧ dp < 0 := by
             unfold jf at pF
             rw [hdp] at pF
             omega
            have HR := aiU (show Np ord D ((mA P b).take (j + 1)) next by rw [lf]; exact hN.skip pF)
            have dz : ((p : Int) != 0) = true := by simp; omega
            have dd : decide (dp < 0) = true := decide_eq_true hno.2
            clear hN hT pF lf hdp hs hpv hno
            go_wp2_with fail
            go_roundw
            case rel => exact ⟨j + 1, next, by omega, by go_num, rfl, HR.out, Fz.out⟩
            case measure => simp [intOf]; omega
          ·obtain rfl : j = pl.length := by omega
           have dl2 : decide ((pl.length : Int) < (pl.length : Int)) = false := by simp
           have hall : (mA P b).take pl.length = mA P b := List.take_of_length_le (by unfold mA; rw [BB.out, List.length_map]; exact Nat.le_refl _)
           rw [hall] at hN
           obtain ⟨O4, hpb, hb0⟩ := Rt.out
           obtain ⟨c, rfl, hst⟩ := hN.stp nQ.out (fun q hq hbq => ((Jy.out q).1).2 ⟨nQ.out.lt q hq, hbq⟩) (fun q hq _ => ((Jy.out q).1.1 hq).2) (fun q hq => UH.out.ti.B8 nQ.out hq) O4 hb0 (fun q hq hlt => UH.out.prev q hq ahU)
           have xd := fM hT.ri hT.ld lu
           have xf := hT.ri.frozenAt b
           have ib1 : (b : Int) < (G.length : Int) := by omega
           obtain ⟨db, hdb⟩ : ∃ d, D.getD b (-1) = d := ⟨_, rfl⟩
           have VP : tL G.length (cM G) ord pos k (pos b) D ch := by rw [hpb]; exact UH.out
           by_cases hsame : db = (c : Int)
           ·have HR := aiU (show tL G.length (cM G) ord pos k (i + 1 + 1) D ch by rw [← hpb]; exact VP.same nQ.out hst (hdb.trans hsame))
            rw [hdb, hsame] at xd
            have dq : ((c : Int) != (c : Int)) = false := by simp
            clear hN hT hst VP hdb hsame O4 hpb hb0 hall
            go_wp2_with fail
            go_roundw
            case rel => exact ⟨i + 1, D, ch, by omega, by go_num, rfl, Fz.out, HR.out⟩
            case measure => simp [intOf]; omega
           ·have HR := aiU (show tL G.length (cM G) ord pos k (i + 1 + 1) (D.set b (c : Int)) true by rw [← hpb]; exact VP.change nQ.out hst (by rw [hdb]; exact hsame))
            have Us := aiU (hT.RP b (c : Int))
            rw [hdb] at xd
            have dq : ((c : Int) != db) = true := by simp; omega
            clear hN hT hst VP hdb hsame O4 hpb hb0 hall
            go_wp2_with fail
            go_roundw
            case rel => exact ⟨i + 1, D.set b (c : Int), true, by omega, by go_num, rfl, Us.out, HR.out⟩
            case measure => simp [intOf]; omega
        ·obtain rfl : i = m - 1 := by omega
         have dl : decide (((m - 1 : Nat) : Int) < (m : Int) - 1) = false := decide_eq_false ahU
         have Fz := aiU hT
         have UG := aiU (show tL G.length (cM G) ord pos k ord.length D ch by have := hP; rwa [show m - 1 + 1 = ord.length by rw [HM.out]; omega] at this)
         clear hT hP t1 t2 t3 t4 t5 t6
         rcases ch with _ | _
         ·have U7 := aiU (UG.out.done nQ.out)
          go_wp2_with fail
          go_roundg 0
          case measure => omega
          case rel => exact ⟨k, D, Fz.out, .inr ⟨rfl, rfl, U7.out⟩⟩
         ·obtain ⟨hkn, fc⟩ := UG.out.next nQ.out
          have mY := aiU fc
          clear fc
          go_wp2_with fail
          go_roundg (G.length + 2 - (k + 1))
          case measure => omega
          case rel => exact ⟨k + 1, D, Fz.out, .inl ⟨rfl, by omega, by omega, mY.out⟩⟩
      ·have Us := aiU hT
       have uh := aiU (HT.out D hI)
       clear hT hI Zi
       go_wp2_with fail
       go_ret
       exact ⟨⟨_, D, rfl, by have := Us.out.ri; rw [← Us.out.ld] at this ⊢; exact eL this, uh.out⟩, B1.out.trans (Us.out.aD.mono B1.out.size)⟩
end
section
open Go.RowKit
theorem tZ {n : Nat} {nx : Nat → List Nat} {ord : List Nat} {pos : Nat → Nat} {D : List Int} (gr : Gr n nx ord pos) (it : gD n nx ord pos D) (hol : ord.length ≤ n) (hn5 : n ≤ 5000) (v : Value) (a b : Nat) (w : World) (HI : Ints w v D) (ha : a < n) (hb : b ∈ ord) :
  Calls Tryz.prog 39 #[v, .int .i64 (a : Int), .int .i64 (b : Int)] w fun e w' => (∃ r : Bool, e = .returned (.bool r) ∧ (r = true ↔ bR D b a)) ∧ Below w.heap.size w w' := by
 obtain ⟨A, cap, rfl, hc1, hc2⟩ := HI.slice
 have J0 := it.ti.len
 rw [J0] at HI hc1 ⊢
 have ZN := aiU J0
 obtain ⟨q, off, rfl, hq, hc⟩ : ∃ q off, A = some ⟨q, off, none⟩ ∧ q < w.heap.size ∧ ∀ k, k < n → w.cell? ⟨q, off + k, none⟩ = some (.int .i64 (D.getD k (-1))) := by
  obtain ⟨_, _, e1, _, _, e4⟩ := HI
  cases e1
  obtain ⟨q, off, e5, e6, e7⟩ := e4 (by have := gr.n0; omega)
  refine ⟨q, off, e5, e6, fun k hk => ?_⟩
  rw [e7 k (by rw [J0]; exact hk)]
  simp [List.getD, List.getElem?_eq_getElem (show k < D.length by rw [J0]; exact hk)]
 have GR := aiU gr
 have IT := aiU it
 have HC := aiU hc
 have HBO := aiU hb
 have hpb : pos b < n := by have := (List.getElem?_eq_some_iff.1 (gr.idx hb)).1; omega
 have d1 : decide ((n : Int) ≤ (a : Int)) = false := decide_eq_false ahU
 have d2 : decide (n ≤ a) = false := decide_eq_false ahU
 clear gr it hc hb HI J0
 go_enter Tryz.func39, Tryz.ntmps39
 go_upto_region 4 with fail
 clear d1 d2
 go_loopw [2, 17] (fun a2 a17 wr => ∃ k : Nat, k ≤ n ∧ a17 = .int .i64 (k : Int) ∧ Below w.heap.size w wr ∧ ((a2 = .int .i64 (-1) ∧ ¬ bR D b a) ∨ ∃ x : Nat, a2 = .int .i64 (x : Int) ∧ x ∈ ord ∧ pos x + k ≤ pos b ∧ (bR D b a ↔ bR D x a))) (fun _ a17 _ => n - (intOf a17).toNat)
 case atStart => exact ⟨0, Nat.zero_le _, rfl, Below.refl _ _, .inr ⟨b, rfl, HBO.out, Nat.le_refl _, Iff.rfl⟩⟩
 case round =>
  obtain ⟨k, hk, rfl, kL, h⟩ := hrel
  have HB := aiU kL
  have hsz := kL.size
  by_cases hlt : k < n
  ·have dl : decide ((k : Int) < (n : Int)) = true := decide_eq_true ahU
   rcases h with ⟨rfl, hno⟩ | ⟨x, rfl, hx, hp, hiff⟩
   ·clear kL
    have mZ := aiU hno
    clear hno
    go_wp2_with fail
    go_ret
    exact ⟨⟨false, rfl, by simp [mZ.out]⟩, HB.out⟩
   ·have XK := GR.out.lt x hx
    have d3 : decide ((n : Int) ≤ (x : Int)) = false := decide_eq_false ahU
    have d4 : decide (n ≤ x) = false := decide_eq_false ahU
    have i1 : (x : Int) < (n : Int) := by omega
    have HIF := aiU hiff
    have HX := aiU hx
    by_cases QS : a = x
    ·have e1 : ((a : Int) == (x : Int)) = true := by simp [QS]
     have HR := aiU (show bR D b a from hiff.2 (by rw [QS]; exact .self _))
     clear kL hiff hx QS hp
     go_wp2_with fail
     go_ret
     exact ⟨⟨true, rfl, by simp [HR.out]⟩, HB.out⟩
    ·have e1 : ((a : Int) == (x : Int)) = false := by simp; omega
     have c1 : wr.cell? ⟨q, off + x, none⟩ = some (.int .i64 (D.getD x (-1))) := (kL.cell (p := ⟨q, off + x, none⟩) hq).trans (HC.out x XK)
     have sq : q < wr.heap.size := by omega
     obtain ⟨d, hd⟩ : ∃ d, D.getD x (-1) = d := ⟨_, rfl⟩
     rw [hd] at c1
     have HN := aiU (show (d = -1 ∧ ¬ bR D b a) ∨ ∃ y : Nat, d = (y : Int) ∧ y ∈ ord ∧ pos y + (k + 1) ≤ pos b ∧ (bR D b a ↔ bR D y a) by
      by_cases h0 : 0 ≤ d
      ·obtain ⟨y, rfl⟩ : ∃ y : Nat, d = (y : Int) := ⟨d.toNat, by omega⟩
       obtain ⟨u1, u2, u3, u4, u5⟩ := IT.out.ti.up x y hd
       refine .inr ⟨y, rfl, u2, by omega, ?_⟩
       rw [hiff, bR.step hd]
       exact ⟨fun h => h.resolve_left QS, .inr⟩
      ·have := IT.out.ti.ge x
       refine .inl ⟨by omega, fun h => ?_⟩
       cases hiff.1 h with
       | self => exact QS rfl
       | up h1 _ => omega)
     clear kL hiff hx QS hp hd
     go_wp2_with fail
     go_roundw
     case rel =>
      refine ⟨k + 1, by omega, by go_num, HB.out, ?_⟩
      rcases HN.out with ⟨e, h⟩ | ⟨y, e, h⟩
      ·exact .inl ⟨by rw [e], h⟩
      ·exact .inr ⟨y, by rw [e], h⟩
     case measure => simp [intOf]; omega
  ·obtain rfl : n = k := by omega
   have dl : decide ((n : Int) < (n : Int)) = false := by simp
   have HR := aiU (show ¬ bR D b a by
    rcases h with ⟨_, hno⟩ | ⟨x, _, _, hp, _⟩
    ·exact hno
    ·omega)
   clear h kL
   go_wp2_with fail
   go_ret
   exact ⟨⟨false, rfl, by simp [HR.out]⟩, HB.out⟩
end
end Go.Proofs.YtlmgkipmfgijiaaGreatDoor
