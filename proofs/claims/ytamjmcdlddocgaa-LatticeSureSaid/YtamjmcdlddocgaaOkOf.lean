/- What is right is told to be right: rows and points. -/
import Derived.Test.YtamjmcdlddocgaaPtAA
namespace Go.Proofs.Ytamjmcdlddocgaa
open Go.ChangeShapes Go.WideShapes Go.RowKit
set_option linter.unusedVariables false
set_option linter.unusedSimpArgs false

theorem okOut_of : ∀ {l : List Int} {i : Nat}, (∀ x ∈ l, fitI x) → firstOut l i = (0, 0)
  | [], _, _ => rfl
  | x :: l, i, h => by unfold firstOut; rw [if_pos (h x (by simp))]; exact okOut_of fun y hy => h y (by simp [hy])
theorem okRow_of {r : Rw} {n : Int} (h : RowOK r n) : chkRow r n = (0, 0) := by
  have h0 := h.n0
  have h1 := h.n12
  have h2 := h.len
  unfold chkRow
  rw [if_neg (by omega), if_neg (not_not_intro h.kind), if_neg (by omega)]
  apply okOut_of
  intro x hx
  rcases List.mem_append.1 hx with hx | hx
  · exact h.fit x hx
  · rw [List.mem_singleton] at hx; subst hx; exact h.fto
end Go.Proofs.Ytamjmcdlddocgaa
