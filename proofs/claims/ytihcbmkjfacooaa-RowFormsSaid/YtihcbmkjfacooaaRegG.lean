/- At a guarded operation of a region whose order is drawn. -/
import Derived.Test.YtihcbmkjfacooaaRegion
namespace Go.Proofs.Ytihcbmkjfacooaa
section
variable {P : Program} {ops : Array Oper} {Q : Exit → Act → World → Prop}
theorem wpOp_wanted {e : Nat} {o : Oper} {K₀ : Act → World → Prop} {a : Act} {w : World} (ho : ops[e]? = some o) (hw : Region.wanted o (yielded ops a.tmps) = true) (h : ∀ K : Act → World → Prop, (∀ a w, K₀ a w → K a w) → o.wp P a w K Q) : wpOp P ops Q e K₀ a w := by
  unfold wpOp
  simp only [ho, hw, if_true]
  exact .inl (h _ fun _ _ h => h)
theorem wpOp_unwanted {e : Nat} {o : Oper} {K₀ : Act → World → Prop} {a : Act} {w : World} (ho : ops[e]? = some o) (hw : Region.wanted o (yielded ops a.tmps) = false) (h : K₀ (a.put o.dst undef) w) : wpOp P ops Q e K₀ a w := by
  unfold wpOp
  simp only [ho, hw, Bool.false_eq_true, if_false]
  exact h
end
end Go.Proofs.Ytihcbmkjfacooaa
