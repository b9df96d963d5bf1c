/- The reach of rows. -/
import Derived.Test.YtcnjcnjipddgeaaPtAA
import Derived.SizedLaws
namespace Go.Proofs.Ytcnjcnjipddgeaa
set_option linter.unusedSimpArgs false
set_option linter.unusedVariables false
open Go.ChangeShapes Go.WideShapes Go.ChangeAt Go.RowKit Go.Joins Go.Deep
section
variable {H:Type} {enc:TypeId × Value→H} {W:World} {base:Nat} {d:DataW H} {p:List MemPlace} {v:Value}
theorem bytes_row:Try.prog.bytesOf 33=40:=by kernel_rfl
theorem rows_reach {l:List Rw}(hr:IsRows W v l)(hv:Value.okWide Try.prog W .any base 22 v)(h:DataW.Trod enc Try.prog W 0 (fun _=>true) true 22 v d p)
  (hw:∀n∈d.weights Try.prog 22,n≤reachBytes):l.length*40≤140737488355328:=by
 obtain⟨oa,cap,rfl,_⟩:=hr;obtain⟨fuel,hf⟩:=h
 rcases open_slice Try.underlying22 hf with⟨hcs,_⟩ | ⟨a,len,cap',m,n,D,Pl,hcs,_,hl,hm,hmm,hx,_⟩
 ·simp [Value.cells]at hcs
  omega
 ·simp [Value.cells]at hcs
  obtain⟨rfl,e,rfl⟩:=hcs;obtain⟨rfl,_⟩:=Prod.mk.inj hx;have hn:=hw ((((List.range len).map D).length+((List.range (m-len)).map fun j=>D (len+j)).length)*Try.prog.bytesOf 33) (by
   simp [DataW.weights,Try.underlying22])
  rw [bytes_row]at hn;simp only [List.length_map,List.length_range,reachBytes]at hn;omega
end
end Go.Proofs.Ytcnjcnjipddgeaa
