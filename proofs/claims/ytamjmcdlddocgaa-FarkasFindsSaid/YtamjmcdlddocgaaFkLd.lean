/- Multipliers that refute rows, plain: what is asked. -/
import Derived.Test.YtamjmcdlddocgaaFkP
namespace Go.Proofs.Ytamjmcdlddocgaa
open Go.ChangeShapes Go.WideShapes Go.RowKit
set_option linter.unusedVariables false
set_option linter.unusedSimpArgs false

/-- No multiplier of a row that is no equation is below 0. -/
def posK (rows : List Rw) (ts : List Rat) : Nat → Bool
  | 0 => true
  | i + 1 => posK rows ts i && (decide ((rows.getD i nilRw).kind = 3) || decide (0 ≤ ts.getD i 0))
def zeroK (rows : List Rw) (ts : List Rat) : Nat → Bool
  | 0 => true
  | k + 1 => zeroK rows ts k && decide (colK rows ts k rows.length = 0)
def endB (rows : List Rw) (ts : List Rat) : Bool := decide (toK rows ts rows.length < 0) || (decide (toK rows ts rows.length = 0) && strK rows ts rows.length)
/-- Multipliers refute rows. -/
def refB (rows : List Rw) (ts : List Rat) (N : Nat) : Bool := posK rows ts rows.length && (zeroK rows ts N && endB rows ts)

theorem ratSgn_lt {q : Rat} : q.num.sign < 0 ↔ q < 0 := by
  rw [show q.num.sign < 0 ↔ ¬ 0 ≤ q.num.sign from by omega, Int.sign_nonneg_iff, Rat.num_nonneg, Rat.not_le]
end Go.Proofs.Ytamjmcdlddocgaa
