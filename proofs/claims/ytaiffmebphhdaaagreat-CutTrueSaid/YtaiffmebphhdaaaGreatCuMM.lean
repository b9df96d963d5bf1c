/- The law CutMore, plain. The reference's SmallRows, of any size. The law CutSure, plain. The reference's CutBounded, CutSome. -/
import Derived.Test.YtaiffmebphhdaaaGreatCuDD
import Derived.Test.YtaiffmebphhdaaaGreatSpEE
import Derived.Test.YtaiffmebphhdaaaGreatOwGG
import Derived.Test.YtaiffmebphhdaaaGreatFkAA
namespace Go.Proofs.YtaiffmebphhdaaaGreat
set_option linter.unusedSimpArgs false
set_option linter.unusedVariables false
open Go.ChangeShapes Go.WideShapes Go.RowKit
theorem Oo {rows:List Rw}{N:Nat}{pt:List Fq}(hok:∀r∈rows,eD r N)(h:PK rows N pt):Cb rows pt=true:=by
 unfold Cb;rw [List.all_eq_true];intro r hr;have h1:(R4 r pt).1=0:=by
  unfold R4;rw [h.len,VF (hok r hr),if_neg sm,VG h.ok]
 have h2:=Oq hok h r hr;unfold GK;rw [h1,h2];rfl
theorem R5 {rows:List Rw}{n:Nat}{pt:List Rat}(hl:pt.length=n)(hf:allFit pt pt.length=true)(h:∀r∈rows,wV r n fun j=>pt.getD j 0):PK rows n (pt.map cZ):=by
 refine⟨by simpa using hl,yh hf,fun i hi=> ?_⟩;have hr:rows.getD i bG∈rows:=by
  rw [dX,fG hi];exact List.getElem_mem hi
 have e:(sQ n fun j=>(iX rows i j:Rat)*jO (pt.map cZ) j)=sQ n fun j=>((rows.getD i bG).of.getD j 0:Rat)*pt.getD j 0:=dV n fun j hj=>by
  rw [EG hf om,dX (l:=pt),fG (by omega:j<pt.length)];rfl
 rw [e];exact h _ hr
end Go.Proofs.YtaiffmebphhdaaaGreat
