/- The laws of lattice.Do, plain: the point and the ways that are told. -/
import Derived.Test.YtcnjcnjipddgeaaGreatLdN
namespace Go.Proofs.YtcnjcnjipddgeaaGreat
set_option linter.unusedSimpArgs false
set_option linter.unusedVariables false
open Go.ChangeShapes Go.WideShapes Go.RowKit
theorem okI_fit {q:Rat}(h:okI q=true):fitI q.num∧q=(q.num:Rat):=by
 have h:=of_decide_eq_true h;refine⟨?_,(IsZ.of_den h.2.1).num⟩;unfold fitI;exact⟨by omega,by omega⟩
structure Told (rows:List Rw)(N:Nat)(R:DoRes)(S:LQ):Prop where
 li:LI N rows.length (fun r j=>(azR rows r j:Rat)) (toR rows) (startL rows N).cols rows.length S
 al:R.at_.length=N
 af:∀x∈R.at_,fitI x
 aq:∀j,j<N→((R.at_.getD j 0:Int):Rat)=ptQ S rows.length j
 wl:R.ways.length=N-S.piv.length
 ww:∀u∈R.ways,u.length=N∧∀x∈u,fitI x
 wq:∀i,i<R.ways.length→∀j,j<N→(((R.ways.getD i []).getD j 0:Int):Rat)=cellQ S.cols (S.piv.length+i) (rows.length+j)
 no:R.why= []
theorem told_of {rows:List Rw}{n:Int}(h:(ltR rows n).yes=true):∃N:Nat,n=(N:Int)∧N≤12∧rows.length≤40∧(∀r∈rows,RowOK r N)∧(∀r∈rows,r.kind=3)∧(ltE rows n).1=0∧∃S,Told rows N (ltR rows n) S:=by
 obtain⟨h0,N,rfl,h2,h3,h4,h5,S,hS,hI⟩:=lt_yes h;refine⟨N,rfl,h2,h3,h4,h5,h0,S,?_⟩;rw [hS]at h ⊢;obtain⟨g1,g2,e⟩:=yesR_yes h;rw [e];have hpl:=hI.pl;have hwl:(waysQ S rows.length).length=N-S.piv.length:=ways_len hI;exact
 {li:=hI
  al:=by simp [ptLL]
  af:=fun x hx=>by
   obtain⟨q,hq,rfl⟩:=List.mem_map.1 hx;exact(okI_fit (List.all_eq_true.1 g1 q hq)).1
  aq:=fun j hj=>by
   have e1:(ptLL S N rows.length S.part.length)[j]? =some (ptS S rows.length j S.part.length):=by
    unfold ptLL;rw [List.getElem?_map,List.getElem?_range hj];rfl
   simp only;rw [List.getD_eq_getElem?_getD,List.getElem?_map,e1];simp only [Option.map_some,Option.getD_some];rw [← (okI_fit (List.all_eq_true.1 g1 _ (List.mem_of_getElem? e1))).2,ptS_ptQ,hpl];rfl
  wl:=by simp only;rw [List.length_map,hwl]
  ww:=fun u hu=>by
   simp only at hu;obtain⟨l,hl,rfl⟩:=List.mem_map.1 hu;have hg:=List.all_eq_true.1 (List.all_eq_true.1 g2 l hl);refine⟨?_,fun x hx=> ?_⟩
   ·rw [List.length_map]
    unfold waysQ at hl;obtain⟨c,hc,rfl⟩:=List.mem_map.1 hl;obtain⟨k,hk,rfl⟩:=List.getElem_of_mem hc;rw [List.length_drop]at hk;rw [List.getElem_drop,List.length_drop];have:=hI.cols.u (S.piv.length+k) (by have:=hI.cols.l;omega)
    rw [List.getD_eq_getElem?_getD,List.getElem?_eq_getElem (by omega)]at this
    have this:(S.cols[S.piv.length+k]'(by omega)).length=rows.length+N:=this
    omega
   ·obtain ⟨q,hq,rfl⟩:=List.mem_map.1 hx
    exact(okI_fit (hg q hq)).1
  wq:=fun i hi j hj=>by
   simp only at hi ⊢;rw [List.length_map,hwl]at hi;have hk:S.piv.length+i<S.cols.length:=by have:=hI.cols.l;omega
   have e1:(waysQ S rows.length)[i]? =some ((S.cols[S.piv.length+i]).drop rows.length):=by
    unfold waysQ;rw [List.getElem?_map,List.getElem?_drop,List.getElem?_eq_getElem hk];rfl
   have hcl:(S.cols[S.piv.length+i]).length=rows.length+N:=by
    have:=hI.cols.u (S.piv.length+i) (by have:=hI.cols.l;omega)
    rwa [List.getD_eq_getElem?_getD,List.getElem?_eq_getElem hk]at this
   have e2:((S.cols[S.piv.length+i]).drop rows.length)[j]? =some ((S.cols[S.piv.length+i])[rows.length+j]'(by omega)):=by
    rw [List.getElem?_drop,List.getElem?_eq_getElem (by omega)]
   have hg:=List.all_eq_true.1 (List.all_eq_true.1 g2 _ (List.mem_of_getElem? e1)) _ (List.mem_of_getElem? e2);rw [List.getD_eq_getElem?_getD (l:=List.map _ _),List.getElem?_map,e1];simp only [Option.map_some,Option.getD_some];rw [List.getD_eq_getElem?_getD,List.getElem?_map,e2];simp only [Option.map_some,Option.getD_some];rw [← (okI_fit hg).2];unfold cellQ;rw [List.getD_eq_getElem?_getD (l:=S.cols),List.getElem?_eq_getElem hk];simp only [Option.getD_some];rw [List.getD_eq_getElem?_getD,List.getElem?_eq_getElem (by omega)]
   rfl
  no:=rfl}
end Go.Proofs.YtcnjcnjipddgeaaGreat
