/- Package lattice's Take. -/
import Derived.Test.YtcnjcnjipddgeaaLtA
import Derived.Test.YtcnjcnjipddgeaaLtD
import Derived.Test.YtcnjcnjipddgeaaFkAA
namespace Go.Proofs.Ytcnjcnjipddgeaa
set_option linter.unusedSimpArgs false
set_option linter.unusedVariables false
open Go.ChangeShapes Go.WideShapes Go.RowKit
def lt1 (rows:List Rw)(ts:List Rat)(N:Nat):Bool:= !((colL rows ts N rows.length).any frP)&&frP (toK rows ts rows.length)
theorem eqF_ok {rows:List Rw}{n:Int}(h:(eqF rows n).1=0):eqF rows n=(0,0)∧0≤n∧n≤12∧rows.length≤40∧(∀r∈rows,RowOK r n)∧∀r∈rows,r.kind=3:=by
 unfold eqF at h ⊢
 by_cases h1:(listF rows n).1=0
 ·rw [if_neg (by simp [h1])]at h ⊢
  obtain⟨h2,h3⟩:=firstK_all h;obtain⟨h4,h5,h6,h7⟩:=listF_ok h1;exact⟨h2,h4,h5,h6,h7,h3⟩
 ·rw [if_pos h1]at h;exact absurd h h1
end Go.Proofs.Ytcnjcnjipddgeaa
