/- Package simplex's Do. What simplex.Do tells, plain. Of small rows it is always told; with fewer rows, and with a row's contrary: plain. -/
import Derived.Test.YtmepglhdcphffaaGreatTbX
import Derived.Test.YtmepglhdcphffaaGreatTbOO
import Derived.Test.YtmepglhdcphffaaGreatOwGG
import Derived.Test.YtmepglhdcphffaaGreatTbTT
import Derived.Test.YtmepglhdcphffaaGreatRowAA
namespace Go.Proofs.YtmepglhdcphffaaGreat
set_option linter.unusedSimpArgs false
set_option linter.unusedVariables false
open Go.ChangeShapes Go.WideShapes Go.RowKit Go.Maps
theorem zbw {n:Nat}{rows:List Rw}{T:TS}(h:Inv n rows T):∀q∈T.ptK T.n,NB 1000 q:=by
 intro q hq;unfold TS.ptK at hq;obtain⟨v,hv,rfl⟩:=List.mem_map.1 hq;have hv:=List.mem_range.1 hv;have hvl:v<T.vals.length:=by rw [h.wf.vl];omega
 have hs:=OC h.wf h.nb T.vals.length (Nat.le_refl _);have ho:(T.val v).ok 100:=by rw [kL hvl];exact h.nb.v _ (List.getElem_mem hvl)
 unfold TS.ptQ;exact(ho.1.add (ho.2.mul hs)).mono om
theorem Hw {n:Nat}{rows:List Rw}{T:TS}{i:Nat}{way:Int}(h:Inv n rows T)(hi:i<rows.length)(hw:way=1∨way= -1):∀k,k≤n+rows.length→∀q∈T.refK i way k,NB 1000 q
 | 0,_,q,hq=>by
  unfold TS.refK at hq;rcases List.mem_or_eq_of_mem_set hq with hq | rfl
  ·rw [(List.mem_replicate.1 hq).2];exact kW.mono om
  exact(jg (x:= -way) om).mono om
 | k+1,hk,q,hq=>by
  unfold TS.refK at hq;split at hq
  ·exact Hw h hi hw k om q hq
  rcases List.mem_or_eq_of_mem_set hq with hq | rfl
  ·exact Hw h hi hw k om q hq
  have hic:i<T.cells.length:=by rw [h.wf.cl,h.hr];exact hi
  have hkc:k<T.cells[i].length:=by rw [h.wf.cr _ (List.getElem_mem hic),h.hn,h.hr];omega
  have hc:NB 100 (T.cell i k):=by rw [pR hic hkc];exact h.nb.c _ (List.getElem_mem hic) _ (List.getElem_mem hkc)
  exact((hc.mul (jg (x:= -way) om)).neg).mono om
theorem aO.other2 {α:Type}{T:TypeId}{K:Nat}{c:α→List Value}{w:World}{base b:Nat}{v:Value}{l:List α}(h:aO T K c w base v l)(hb:b<base)(x y:Value):aO T K c ((w.setCell ⟨b,0,none⟩ x).setCell ⟨b,1,none⟩ y) base v l:=
 dO h fun k hk=>by have:=h.block k hk;have hne:k≠b:=om;rw [heap_setCell_other _ _ _ _ hne,heap_setCell_other _ _ _ _ hne]
open Go.ChangeShapes Go.WideShapes Go.RowKit
theorem QN {l:List Rat}(h:allFit l l.length=true):∀q∈l,Fits q:=by
 unfold allFit at h;rw [List.take_length,List.all_eq_true]at h;exact fun q hq=>of_decide_eq_true (h q hq)
theorem Dq {l:List Rat}(h:allFit l l.length=true):∀g∈l.map eX,bF g.N g.D:=by
 intro g hg;obtain⟨q,hq,rfl⟩:=List.mem_map.1 hg;unfold eX;rw [if_pos (QN h q hq)];exact QC (QN h q hq)
def yh (r:Rw)(N:Nat)(x:Nat→Rat):Prop:=
 (r.kind=1→(sQ N fun j=>(r.of.getD j 0:Rat)*x j)≤(r.to:Rat))∧(r.kind=2→(sQ N fun j=>(r.of.getD j 0:Rat)*x j)<(r.to:Rat))∧(r.kind=3→(sQ N fun j=>(r.of.getD j 0:Rat)*x j)=(r.to:Rat))
theorem zc7 {rows:List Rw}{i:Nat}(hi:i<rows.length):rows.getD i bZ=rows[i]:=by rw [dV,eD hi];rfl
theorem Ql {f:Nat→Nat→Rat}{m:Nat}:∀n,sQ n (fun i=>sQ m (fun j=>f i j))=sQ m (fun j=>sQ n (fun i=>f i j))
 | 0=>by simp only [sQ];exact(jR m fun _ _=>rfl).symm
 | n+1=>by simp only [sQ];rw [Ql n,←qG]
theorem WI {f g:Nat→Rat}:∀n,(∀j,j<n→f j≤g j)→sQ n f≤sQ n g
 | 0,_=>Rat.le_refl
 | n+1,h=>by
  have ih:=WI n fun j hj=>h j om;have:=h n om;simp only [sQ];grind
theorem za7 {f g:Nat→Rat}{p:Nat}:∀n,p<n→(∀j,j<n→f j≤g j)→f p<g p→sQ n f<sQ n g
 | 0,h,_,_=>absurd h om
 | n+1,hp,h,hs=>by
  simp only [sQ];by_cases e:p=n
  ·subst e;have:=WI p fun j hj=>h j om;grind
  have:=za7 n om (fun j hj=>h j om) hs;have:=h n om;grind
end Go.Proofs.YtmepglhdcphffaaGreat
