/- Fractions of numbers, as Frac answers them. -/
import Derived.Test.YtaiffmebphhdaaaGreatRegVV
import Derived.Test.YtaiffmebphhdaaaGreatOwnG
namespace Go.Proofs.YtaiffmebphhdaaaGreat
set_option linter.unusedSimpArgs false
set_option linter.unusedVariables false
open Go.ChangeShapes Go.WideShapes Go.RowKit
def dQ (q:Rat):Fq:=if Fits q then⟨q.num,q.den⟩else⟨0,0⟩
theorem wW (S:Nat→Bool)(e:Nat):mark S e e=true:=by unfold mark;rw [if_pos rfl]
theorem gJ {S:Nat→Bool}{e d:Nat}(h:d≠e):mark S e d=S d:=by unfold mark;rw [if_neg h]
theorem Gx (q:Rat):qH q= .tuple #[.agg #[.int .i64 (dQ q).N,.int .i64 (dQ q).D],.bool (decide (Fits q))]:=by
 unfold qH dQ
 by_cases h:Fits q
 ·rw [if_pos h,if_pos h,decide_eq_true h];rfl
 ·rw [if_neg h,if_neg h,decide_eq_false h];rfl
theorem VE (q:Rat):fK (dQ q).N∧fK (dQ q).D:=by
 unfold dQ
 by_cases h:Fits q
 ·rw [if_pos h]
  have:=h.1;have:=h.2;unfold fK;simp only;omega
 ·rw [if_neg h];unfold fK;simp
end Go.Proofs.YtaiffmebphhdaaaGreat
