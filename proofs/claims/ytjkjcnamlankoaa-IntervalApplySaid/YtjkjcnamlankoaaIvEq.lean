/-
  What is proved here: two intervals compared with '==' (a struct of two words).
-/
import Derived.Test.YtjkjcnamlankoaaIvLin
namespace Go.Proofs.Ytjkjcnamlankoaa
open Go.RowKit

theorem eqIn_int {P : Program} (d : Nat) {t : TypeId} {k : IntKind} (h : P.underlying t = some (.int k)) (a b : Int) (w : World) : (Op.equalIn (d + 1) t (.int k a) (.int k b)).run P w = .ok (a == b) w := by
  simp [Op.equalIn, run_underlying h]
theorem part0 (a b : Int) (w : World) : (part 21 #[.int .i32 a, .int .i32 b] 0).run Try.prog w = .ok (.int .i32 a) w := by kernel_rfl
theorem part1 (a b : Int) (w : World) : (part 21 #[.int .i32 a, .int .i32 b] 1).run Try.prog w = .ok (.int .i32 b) w := by kernel_rfl
theorem eqIn_iv (d : Nat) (a b c e : Int) (w : World) : (Op.equalIn (d + 1 + 1) 23 (.agg #[.int .i32 a, .int .i32 b]) (.agg #[.int .i32 c, .int .i32 e])).run Try.prog w = .ok (a == c && b == e) w := by
  rw [Op.equalIn]
  simp [run_underlying Try.underlying23, eqIn_int d Try.underlying21, part0, part1, Sem.run_bind]
  by_cases h1 : a = c <;> by_cases h2 : b = e <;> simp [h1, h2]
theorem eq_iv (a b c d : Int) (w : World) : (binOp .eql 23 (.agg #[.int .i32 a, .int .i32 b]) (.agg #[.int .i32 c, .int .i32 d])).run Try.prog w = .ok (.bool (a == c && b == d)) w := by
  simp only [binOp]
  simp [Op.equal, Op.maxDepth, eqIn_iv 9998]
theorem ne_iv (a b c d : Int) (w : World) : (binOp .neq 23 (.agg #[.int .i32 a, .int .i32 b]) (.agg #[.int .i32 c, .int .i32 d])).run Try.prog w = .ok (.bool (!(a == c && b == d))) w := by
  simp only [binOp]
  simp [Op.equal, Op.maxDepth, eqIn_iv 9998]

end Go.Proofs.Ytjkjcnamlankoaa
