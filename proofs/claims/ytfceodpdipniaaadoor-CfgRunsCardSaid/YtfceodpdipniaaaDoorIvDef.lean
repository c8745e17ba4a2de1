/-
  What is defined here: words and intervals in plain mathematics (no program): the value of each operator, and the interval of its results.
-/
import Derived.Test.YtfceodpdipniaaaDoorExt
namespace Go.Proofs.YtfceodpdipniaaaDoor
open Go.RowKit

def b2i (b : Bool) : Int := if b then 1 else 0

/-- The value of a binary operator (word.Apply, first result). -/
def wv (op x y : Int) : Int :=
  if op = 6 then wrap32 (x + y) else if op = 7 then wrap32 (x - y) else if op = 8 then wrap32 (x * y)
  else if op = 9 then (if y = 0 then 0 else wrap32 (x.tdiv y)) else if op = 10 then (if y = 0 then 0 else x.tmod y)
  else if op = 11 then bits .and .i32 x y else if op = 12 then bits .or .i32 x y else if op = 13 then bits .xor .i32 x y
  else if op = 14 then wrap32 (x * 2 ^ (y % 32).toNat) else if op = 15 then x / 2 ^ (y % 32).toNat
  else if op = 16 then b2i (x == y) else if op = 17 then b2i (x != y) else if op = 18 then b2i (decide (x < y)) else if op = 19 then b2i (decide (x ≤ y))
  else if op = 20 then b2i (decide (y < x)) else if op = 21 then b2i (decide (y ≤ x)) else if op = 22 then b2i (x != 0 && y != 0) else if op = 23 then b2i (x != 0 || y != 0) else 0
/-- Its error number. -/
def we (op y : Int) : Int := if 6 ≤ op ∧ op ≤ 23 then (if (op = 9 ∨ op = 10) ∧ y = 0 then 9 else 0) else 1

/-- What every word satisfies. -/
def W32 (x : Int) : Prop := -2147483648 ≤ x ∧ x ≤ 2147483647

end Go.Proofs.YtfceodpdipniaaaDoor
