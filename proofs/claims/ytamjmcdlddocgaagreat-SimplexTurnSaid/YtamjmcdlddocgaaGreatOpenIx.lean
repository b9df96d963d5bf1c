/- Integers that come in. -/
import Derived.Test.YtamjmcdlddocgaaGreatBaseA
namespace Go.Proofs.YtamjmcdlddocgaaGreat
open Go.ChangeShapes Go.WideShapes Go.ChangeAt Go.RowKit Go.Joins
set_option linter.unusedVariables false
set_option linter.unusedSimpArgs false
theorem i64_of_wfC {a : Int} (h : (Lit.int .i64 a).wf = true) : I64 a := by
 have := bounds_i64 h
 unfold I64
 omega
section
variable {H : Type} {enc : TypeId × Value → H} {W : World} {base : Nat} {d : DataW H} {p : List MemPlace} {v : Value}
set_option maxRecDepth 100000 in
theorem in_intC (hv : Value.okWide Tryz.prog W .any base 3 v) (h : DataW.Trod enc Tryz.prog W 0 (fun _ => true) true 3 v d p) : ∃ x : Int, v = .int .i64 x ∧ I64 x := by
 obtain ⟨a, rfl, _, _, w⟩ := open_int Tryz.underlying3 hv h
 exact ⟨a, rfl, i64_of_wfC w⟩
end
end Go.Proofs.YtamjmcdlddocgaaGreat
