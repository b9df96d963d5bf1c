/- Plain laws of rows: tidied rows. -/
import Derived.Test.YtamjmcdlddocgaaGreatRowLawA
namespace Go.Proofs.YtamjmcdlddocgaaGreat
open Go.ChangeShapes Go.WideShapes Go.RowKit
set_option linter.unusedVariables false
set_option linter.unusedSimpArgs false
theorem sumK_tail {a : List Int} {nums : List Fq} {m : Nat} (h : ∀ i, m ≤ i → a.getD i 0 = 0) : ∀ j, sumK a nums (m + j) = sumK a nums m
 | 0 => rfl
 | j + 1 => by
  rw [← Nat.add_assoc]
  simp only [sumK]
  rw [sumK_tail h j, h (m + j) (by omega)]
  rw [Rat.intCast_zero, Rat.zero_mul, Rat.add_zero]
theorem getD_over {l : List Int} {i : Nat} (h : l.length ≤ i) : l.getD i 0 = 0 := by rw [List.getD_eq_getElem?_getD, List.getElem?_eq_none h]; rfl
end Go.Proofs.YtamjmcdlddocgaaGreat
