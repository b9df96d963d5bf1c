/- Plain laws of rows: the sum of two rows. -/
import Derived.Test.YtamjmcdlddocgaaGreatRowLawC
namespace Go.Proofs.YtamjmcdlddocgaaGreat
open Go.ChangeShapes Go.WideShapes Go.RowKit
set_option linter.unusedVariables false
set_option linter.unusedSimpArgs false
theorem sumK_all {l : List Int} {nums : List Fq} {n : Nat} (h : l.length ≤ n) : sumK l nums n = sumK l nums l.length := by
 have := sumK_tail (a := l) (nums := nums) (m := l.length) (fun i hi => getD_over hi) (n - l.length)
 rwa [show l.length + (n - l.length) = n by omega] at this
theorem ratS_le {q : Rat} : q.num.sign ≤ 0 ↔ q ≤ 0 := by
 rw [Int.sign_nonpos_iff, show q.num ≤ 0 ↔ 0 ≤ (-q).num from by rw [Rat.neg_num]; omega, Rat.num_nonneg]
 grind
theorem ratS_lt {q : Rat} : q.num.sign < 0 ↔ q < 0 := by
 rw [show q.num.sign < 0 ↔ ¬ 0 ≤ q.num.sign from by omega, Int.sign_nonneg_iff, Rat.num_nonneg, Rat.not_le]
end Go.Proofs.YtamjmcdlddocgaaGreat
