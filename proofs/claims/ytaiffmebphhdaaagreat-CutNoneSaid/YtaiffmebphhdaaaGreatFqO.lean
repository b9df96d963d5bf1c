/- Fractions of numbers, as Frac answers them. -/
import Derived.Test.YtaiffmebphhdaaaGreatRegVV
import Derived.Test.YtaiffmebphhdaaaGreatOwnG
namespace Go.Proofs.YtaiffmebphhdaaaGreat
set_option linter.unusedSimpArgs false
set_option linter.unusedVariables false
open Go.ChangeShapes Go.WideShapes Go.RowKit
def fqOf (q:Rat):Fq:=if Fits q then⟨q.num,q.den⟩else⟨0,0⟩
theorem markS_self (S:Nat→Bool)(e:Nat):mark S e e=true:=by unfold mark;rw [if_pos rfl]
theorem markS_other {S:Nat→Bool}{e d:Nat}(h:d≠e):mark S e d=S d:=by unfold mark;rw [if_neg h]
theorem fracOf_fq (q:Rat):fracOfV q= .tuple #[.agg #[.int .i64 (fqOf q).N,.int .i64 (fqOf q).D],.bool (decide (Fits q))]:=by
 unfold fracOfV fqOf
 by_cases h:Fits q
 ·rw [if_pos h,if_pos h,decide_eq_true h];rfl
 ·rw [if_neg h,if_neg h,decide_eq_false h];rfl
theorem nil_fracs (w:World):IsFracs w (.slice none 0 0) []:=⟨none,0,rfl,by simp,by simp,by simp,fun h=>absurd rfl h⟩
theorem fqOf_i64 (q:Rat):I64 (fqOf q).N∧I64 (fqOf q).D:=by
 unfold fqOf
 by_cases h:Fits q
 ·rw [if_pos h]
  have:=h.1;have:=h.2;unfold I64;simp only;omega
 ·rw [if_neg h];unfold I64;simp
end Go.Proofs.YtaiffmebphhdaaaGreat
