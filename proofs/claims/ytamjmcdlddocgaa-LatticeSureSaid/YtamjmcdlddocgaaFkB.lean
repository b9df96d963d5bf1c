/- Package farkas's numbers: fractions as exact numbers. -/
import Derived.Test.YtamjmcdlddocgaaNumA
namespace Go.Proofs.Ytamjmcdlddocgaa
open Go.ChangeShapes Go.WideShapes Go.RowKit
set_option linter.unusedVariables false
set_option linter.unusedSimpArgs false

theorem num_zero_of {q : Rat} (h : q = 0) : q.num.sign = 0 := by subst h; rfl
theorem num_sign_ne {q : Rat} (h : ¬ q = 0) : q.num.sign ≠ 0 := fun h0 => h (by rwa [Int.sign_eq_zero_iff_zero, Rat.num_eq_zero] at h0)
theorem exSign_num {v : Value} {q : Rat} (h : IsNum v q) (w : World) : Calls Try.prog 41 #[v] w fun e w' => e = .returned (.int .i64 q.num.sign) ∧ Keep NoS w w' := by
  obtain ⟨d, rfl, _⟩ := h
  exact exSign_any w q.num d

end Go.Proofs.Ytamjmcdlddocgaa
