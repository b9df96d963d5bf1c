/- What the walks are told of arguments: integers, fractions, slices. -/
import Derived.Test.YtihcbmkjfacooaaProg
import Derived.WalkKit
import Derived.ProofKit
import Derived.OpenShut
import Derived.Lib.SmallJoins
namespace Go.Proofs.Ytihcbmkjfacooaa
open Go.ChangeShapes Go.WideShapes Go.ChangeAt Go.RowKit Go.Joins
set_option linter.unusedVariables false
set_option linter.unusedSimpArgs false

/-- A number of 64 bits. -/
def I64 (x : Int) : Prop := -9223372036854775808 ≤ x ∧ x ≤ 9223372036854775807

theorem i64_of_wf {x : Int} (h : (Lit.int .i64 x).wf = true) : I64 x := by
  have := bounds_i64 h
  unfold I64
  omega

section
variable {H : Type} {enc : TypeId × Value → H} {W : World} {base : Nat} {d : DataW H} {p : List MemPlace} {v : Value}

set_option maxRecDepth 100000 in
theorem in_int (hv : Value.okWide Try.prog W .any base 3 v) (h : DataW.Trod enc Try.prog W 0 (fun _ => true) true 3 v d p) : ∃ x : Int, v = .int .i64 x ∧ I64 x := by
  obtain ⟨a, rfl, _, _, w⟩ := open_int Try.underlying3 hv h
  exact ⟨a, rfl, i64_of_wf w⟩

set_option maxRecDepth 100000 in
theorem in_frac (hv : Value.okWide Try.prog W .any base 38 v) (h : DataW.Trod enc Try.prog W 0 (fun _ => true) true 38 v d p) : ∃ x y : Int, v = .agg #[.int .i64 x, .int .i64 y] ∧ I64 x ∧ I64 y := by
  obtain ⟨c0, c1, y0, y1, m, rfl, _, _, hy0, hy1⟩ := open_agg2 Try.underlying38 (by kernel_rfl) (by kernel_rfl) hv h
  obtain ⟨a, e0, _, wa⟩ := DataW.trod_int Try.underlying3 hy0
  obtain ⟨b, e1, _, wb⟩ := DataW.trod_int Try.underlying3 hy1
  simp at e0 e1
  subst e0 e1
  exact ⟨a, b, rfl, i64_of_wf wa, i64_of_wf wb⟩
end

end Go.Proofs.Ytihcbmkjfacooaa
