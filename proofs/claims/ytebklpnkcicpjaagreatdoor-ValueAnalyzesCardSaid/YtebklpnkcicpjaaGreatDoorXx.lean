/-
  What is proved here: parts rAb, rEd.
-/
import Derived.Test.YtebklpnkcicpjaaGreatDoorXa
import Derived.Test.YtebklpnkcicpjaaGreatDoorXw
import Derived.Test.YtebklpnkcicpjaaGreatDoorXo
import Derived.Test.YtebklpnkcicpjaaGreatDoorXf
import Derived.Test.YtebklpnkcicpjaaGreatDoorXq
import Derived.BigQuiet
namespace Go.Proofs.YtebklpnkcicpjaaGreatDoor
set_option linter.unusedVariables false
set_option linter.unusedSimpArgs false
set_option maxRecDepth 100000
set_option maxHeartbeats 8000000
section
open Go.RowKit
def El (cd : Nat → Int) : Nat → aZ := fun i => (cx (cd i)).1
theorem H9 (cd : Nat → Int) {lo hi : Int} (h0 : 0 ≤ lo) (h : lo ≤ hi) : codeFrom cd lo (hi - lo).toNat = dX (El cd) lo.toNat (hi.toNat - lo.toNat) := by
 unfold codeFrom dX
 rw [show (hi - lo).toNat = hi.toNat - lo.toNat by omega]
 refine List.map_congr_left fun i _ => ?_
 unfold aA El
 rw [show (lo + (i : Int)).toNat = lo.toNat + i by omega]
theorem BI {n : Nat} {cd : Nat → Int} {G : List dL} (hok : ∀ x ∈ G, Fa n cd G x) : bz cd G = ep (El cd) G := by
 unfold bz ep
 refine List.map_congr_left fun x hx => ?_
 have h := hok x hx
 rw [H9 cd h.lo (Int.le_of_lt h.lt)]
theorem Mt {n : Nat} {cd : Nat → Int} {G : List dL} (hok : ∀ x ∈ G, Fa n cd G x) : ∀ x ∈ G, Uz n G.length x := fun x hx => by
 have h := hok x hx
 have h0 := h.lo
 have h1 := h.lt
 refine ⟨⟨x.lo.toNat, x.hi.toNat, by omega, by omega, by omega, ?_⟩, h.tF, h.nx⟩
 have := (h.RV (x.hi.toNat - 1) abo abo).1
 omega
end
section
open Go.RowKit
theorem xw (a b : Int) (w : World) : (part 3 #[.int .i64 a, .int .i64 b] 0).run Tryz.prog w = .ok (.int .i64 a) w := by
 have h1 : (isAgg 3).run Tryz.prog w = .ok false w := by kernel_rfl
 unfold part
 simp [Sem.run_bind, h1]
theorem xq (a b : Int) (w : World) : (part 3 #[.int .i64 a, .int .i64 b] 1).run Tryz.prog w = .ok (.int .i64 b) w := by
 have h1 : (isAgg 3).run Tryz.prog w = .ok false w := by kernel_rfl
 unfold part
 simp [Sem.run_bind, h1]
theorem OU (d : Nat) (a b c e : Int) (w : World) : (Op.equalIn (d + 1 + 1) 89 (.agg #[.int .i64 a, .int .i64 b]) (.agg #[.int .i64 c, .int .i64 e])).run Tryz.prog w = .ok (a == c && b == e) w := by
 rw [Op.equalIn]
 simp [run_underlying Tryz.underlying89, ox d Tryz.underlying3, xw, xq, Sem.run_bind]
 rw [show List.range' 0 2 = [0, 1] from rfl]
 by_cases h1 : a = c <;> by_cases h2 : b = e <;> simp [h1, h2, List.forIn_cons, ox d Tryz.underlying3, xw, xq, Sem.run_bind]
theorem OT (a b c d : Int) (w : World) : (binOp .neq 89 (.agg #[.int .i64 a, .int .i64 b]) (.agg #[.int .i64 c, .int .i64 d])).run Tryz.prog w = .ok (.bool (!(a == c && b == d))) w := by
 simp only [binOp]
 simp [Op.equal, Op.maxDepth, OU 9998]
theorem Gg {w wr : World} {v : Value} {L : List (Int × Int)} (h : EK w v L) (hb : Below w.heap.size w wr) {j : Nat} {p : Int × Int} (hj : L[j]? = some p) : ∃ b off cap, v = .slice (some ⟨b, off, none⟩) L.length cap ∧ b < wr.heap.size ∧ wr.rangeAt b (off + j * 2) [.int .i64 p.1, .int .i64 p.2] := by
 obtain ⟨A, cap, e1, e2, e3, e4⟩ := h
 have hl := (List.getElem?_eq_some_iff.1 hj).1
 obtain ⟨b, off, ea, hlt, hc⟩ := e4 abo
 obtain ⟨c1, c2⟩ := hc j p hj
 refine ⟨b, off, cap, by rw [e1, ea], by have := hb.size; omega, fun i u hu => ?_⟩
 rw [hb.cell (p := ⟨b, _, none⟩) hlt]
 match i, hu with
 | 0, hu => cases hu; exact c1
 | 1, hu => cases hu; exact c2
theorem vg {ops : Array Oper} {C : World → Prop} {Q : Act → Prop} {a : Act} {op : Oper} {rest : List Oper} (hw : Region.wanted op (yielded ops a.tmps) = true) (x y : Operand) (z : TypeId) (ho : op.op = .binOp .neq 89 x y z)
  (p q : Int × Int) (b : Bool) (hb : (!(p.1 == q.1 && p.2 == q.2)) = b) (hx : a.eval x = .agg #[.int .i64 p.1, .int .i64 p.2]) (hy : a.eval y = .agg #[.int .i64 q.1, .int .i64 q.2]) (h : wpQuiet Tryz.prog ops C Q rest (a.put op.dst (.bool b))) : wpQuiet Tryz.prog ops C Q (op :: rest) a :=
 BigFrame.wpQuiet_want hw fun K hK => ⟨.bool b, fun w hC => by
  unfold Oper.quietAt execOp
  have h1 : (eqGuard .neq 89 x y (.agg #[.int .i64 p.1, .int .i64 p.2]) (.agg #[.int .i64 q.1, .int .i64 q.2])).run Tryz.prog w = .ok () w := run_eqGuard_agg _ _ _ _ _ _ _ abp
  have h2 := OT p.1 p.2 q.1 q.2 w
  rw [hb] at h2
  simp only [ho, hx, hy, Sem.run_bind, Sem.run_map, h1, Result.andThen_ok, h2, Sem.run_pure]
  exact ⟨rfl, rfl⟩, hK _ h⟩
theorem Bh : (Tryz.prog.info? 89).map (·.size) = some 2 := by kernel_rfl
theorem zn (av bv : Value) (L M : List (Int × Int)) (w : World) (HA : EK w av L) (HB : EK w bv M) (hl : L.length ≤ 10000000) (hm : M.length ≤ 10000000) :
  Calls Tryz.prog 10 #[av, bv] w fun e w' => e = .returned (.bool (decide (L = M))) ∧ Below w.heap.size w w' := by
 obtain ⟨A, ac, Za, ha1, ha2, -⟩ := id HA
 obtain ⟨B, bc, nG, hb1, hb2, -⟩ := id HB
 have Mh := acD HA
 have Mg := acD HB
 subst Za nG
 clear HA HB
 go_enter Tryz.func10, Tryz.ntmps10
 obtain ⟨l, hL⟩ : ∃ l, L.length = l := ⟨_, rfl⟩
 obtain ⟨m, hM⟩ : ∃ m, M.length = m := ⟨_, rfl⟩
 have QV := acD hL
 have EO := acD hM
 rw [hL] at hl ha1 Mh ⊢
 rw [hM] at hm hb1 Mg ⊢
 clear hL hM
 by_cases hlm : l = m
 ·subst hlm
  have Zt : ((l : Int) != (l : Int)) = false := by simp
  go_wp2_with fail
  go_loopw [13] (fun a13 wr => ∃ j : Nat, j ≤ l ∧ a13 = .int .i64 (j : Int) ∧ (∀ i, i < j → L[i]? = M[i]?) ∧ Below w.heap.size w wr) (fun a13 _ => l - (intOf a13).toNat)
  case atStart => exact ⟨0, by omega, rfl, fun i hi => by omega, Below.refl _ _⟩
  case round =>
   obtain ⟨j, hj, rfl, heq, hb⟩ := hrel
   have XT := acD heq
   have HB := acD hb
   clear heq hb
   by_cases hlt : j < l
   ·have dl : decide ((j : Int) < (l : Int)) = true := decide_eq_true abo
    have dj : (j : Int) < (l : Int) := by omega
    obtain ⟨p, hp⟩ : ∃ p, L[j]? = some p := ⟨_, List.getElem?_eq_getElem (by rw [QV.out]; exact hlt)⟩
    obtain ⟨q, hq⟩ : ∃ q, M[j]? = some q := ⟨_, List.getElem?_eq_getElem (by rw [EO.out]; exact hlt)⟩
    obtain ⟨ab, ao, ac', e1, la, ra⟩ := Gg Mh.out HB.out hp
    obtain ⟨bb, bo, bc', e2, lb, rb⟩ := Gg Mg.out HB.out hq
    rw [QV.out] at e1
    rw [EO.out] at e2
    cases e1
    cases e2
    have RA := acD ra
    have RB := acD rb
    obtain ⟨bq, Wl⟩ : ∃ b, (!(p.1 == q.1 && p.2 == q.2)) = b := ⟨_, rfl⟩
    have Ra := acD Wl
    have HP := acD (And.intro hp hq)
    clear ra rb Wl hp hq
    go_wp2_with fail
    refine az abp abp ?_
    repeat (first | (go_big_quiet_step (fail)) | (refine bM abx _ _ rfl _ _ rfl [.int .i64 p.1, .int .i64 p.2] _ (by rintro _ ⟨x1, rfl⟩; exact cL RA.out x1.h la) Tryz.underlying89 rfl Bh ?_; (try simp only [acE, acF, acG, Act.put, acH, acI, acJ])) | (refine bM abx _ _ rfl _ _ rfl [.int .i64 q.1, .int .i64 q.2] _ (by rintro _ ⟨x1, rfl⟩; exact cL RB.out x1.h lb) Tryz.underlying89 rfl Bh ?_; (try simp only [acE, acF, acG, Act.put, acH, acI, acJ])) | (refine vg abx _ _ _ rfl p q bq Ra.out rfl rfl ?_; (try simp only [acE, acF, acG, Act.put, acH, acI, acJ])))
    refine wpQuiet_nil ?_
    rintro _ ⟨x1, rfl⟩
    cases bq with
    | true =>
     have EN := acD (show decide (L = M) = false from decide_eq_false (fun e => by
      subst e
      have h1 := Option.some.inj (HP.out.1.symm.trans HP.out.2)
      have h2 := Ra.out
      rw [h1] at h2
      simp at h2))
     go_wp2_with fail
     go_ret
     exact ⟨by rw [EN.out]; rfl, HB.out.trans (x1.h.mono HB.out.size)⟩
    | false =>
     have Z3 := acD (show p = q by
      have h2 := Ra.out
      simp at h2
      exact Prod.ext h2.1 h2.2)
     go_wp2_with fail
     go_roundw
     case rel =>
      refine ⟨j + 1, by omega, by go_num, fun i hi => ?_, HB.out.trans (x1.h.mono HB.out.size)⟩
      by_cases h9 : i < j
      ·exact XT.out i h9
      ·obtain rfl : i = j := by omega
       rw [HP.out.1, HP.out.2, Z3.out]
     case measure => simp [intOf]; omega
   ·obtain rfl : j = l := by omega
    have dl : decide ((j : Int) < (j : Int)) = false := by simp
    have HE := acD (show decide (L = M) = true from decide_eq_true (List.ext_getElem? fun i => by
     by_cases h9 : i < j
     ·exact XT.out i h9
     ·rw [List.getElem?_eq_none (by rw [QV.out]; omega), List.getElem?_eq_none (by rw [EO.out]; omega)]))
    go_wp2_with fail
    go_ret
    exact ⟨by rw [HE.out]; rfl, HB.out⟩
 ·have Zt : ((l : Int) != (m : Int)) = true := by simp; omega
  have HE := acD (show decide (L = M) = false from decide_eq_false (fun e => hlm (by rw [← QV.out, ← EO.out, e])))
  go_wp2_with fail
  go_ret
  exact ⟨by rw [HE.out]; rfl, Below.refl _ _⟩
end
end Go.Proofs.YtebklpnkcicpjaaGreatDoor
