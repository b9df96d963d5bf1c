/- What simplex.Do tells, plain. -/
import Derived.Test.YtaiffmebphhdaaaGreatSpE
namespace Go.Proofs.YtaiffmebphhdaaaGreat
set_option linter.unusedSimpArgs false
set_option linter.unusedVariables false
open Go.ChangeShapes Go.WideShapes Go.RowKit
def fqAt (l:List Fq)(i:Nat):Rat:=(l.getD i ⟨0,0⟩).q
structure YesOf (rows:List Rw)(N:Nat)(pt:List Fq):Prop where
 len:pt.length=N
 ok:∀g∈pt,FracOK g.N g.D
 holds:∀i,i<rows.length→
  ((rows.getD i nilRw).kind=1→(sQ N fun j=>(rowA rows i j:Rat)*fqAt pt j)≤((rows.getD i nilRw).to:Rat))∧
  ((rows.getD i nilRw).kind=2→(sQ N fun j=>(rowA rows i j:Rat)*fqAt pt j)<((rows.getD i nilRw).to:Rat))∧
  ((rows.getD i nilRw).kind=3→(sQ N fun j=>(rowA rows i j:Rat)*fqAt pt j)=((rows.getD i nilRw).to:Rat))
structure NoOf (rows:List Rw)(N:Nat)(tm:List Fq):Prop where
 len:tm.length=rows.length
 ok:∀g∈tm,FracOK g.N g.D
 sign:∀p,p<rows.length→(rows.getD p nilRw).kind≠3→0≤fqAt tm p
 col:∀k,k<N→(sQ rows.length fun p=>fqAt tm p*(rowA rows p k:Rat))=0
 neg:(sQ rows.length fun p=>fqAt tm p*((rows.getD p nilRw).to:Rat))<0∨(sQ rows.length fun p=>fqAt tm p*((rows.getD p nilRw).to:Rat))=0∧∃p,p<rows.length∧(rows.getD p nilRw).kind=2∧fqAt tm p≠0
theorem all_fit {l:List Rat}(h:allFit l l.length=true):∀q∈l,Fits q:=by
 unfold allFit at h;rw [List.take_length,List.all_eq_true]at h;exact fun q hq=>of_decide_eq_true (h q hq)
theorem all_fit_ok {l:List Rat}(h:allFit l l.length=true):∀g∈l.map fqOf,FracOK g.N g.D:=by
 intro g hg;obtain⟨q,hq,rfl⟩:=List.mem_map.1 hg;unfold fqOf;rw [if_pos (all_fit h q hq)];exact fits_ok (all_fit h q hq)
theorem fq_of_q {q:Rat}(h:Fits q):(fqOf q).q=q:=by
 unfold fqOf;rw [if_pos h];exact Rat.num_divInt_den _
theorem fqAt_map {l:List Rat}(h:allFit l l.length=true){i:Nat}(hi:i<l.length):fqAt (l.map fqOf) i=l[i]:=by
 unfold fqAt;rw [List.getD_eq_getElem?_getD,List.getElem?_map,List.getElem?_eq_getElem hi];exact fq_of_q (all_fit h _ (List.getElem_mem hi))
theorem feas_told {N f:Nat}{rows:List Rw}(hn:N≤12)(h40:rows.length≤64)(hok:∀r∈rows,RowOK r N):
  TS.feas f (TS.start N rows)= .hungry∨
  (∃T,TS.feas f (TS.start N rows)= .yes T∧Inv N rows T∧(allFit (T.ptK T.n) (T.ptK T.n).length=true→YesOf rows N ((T.ptK T.n).map fqOf)))∨
  (∃l,TS.feas f (TS.start N rows)= .no l∧(∃T b way,Inv N rows T∧Brk T b way∧T.enter (T.lineOf b) way=none∧l=T.refK (T.lineOf b) way (T.n+T.rows.length))∧(allFit l l.length=true→NoOf rows N (l.map fqOf))):=by
 have h0:=start_inv hn h40 hok
 rcases hf:TS.feas f (TS.start N rows)with T | l | _
 ·obtain ⟨hI,hb⟩:=feas_yes f _ T h0 hf
  refine .inr (.inl ⟨T,rfl,hI,fun ha=> ?_⟩)
  have hn:=hI.hn;have hl:(T.ptK T.n).length=N:=by rw [ptK_len,hn]
  refine⟨by rw [List.length_map,hl],all_fit_ok ha,fun i hi=> ?_⟩
  have e:(sQ N fun j=>(rowA rows i j:Rat)*fqAt ((T.ptK T.n).map fqOf) j)=sQ N fun j=>(rowA rows i j:Rat)*T.ptQ j:=by
   refine sQ_congr N fun j hj=> ?_
   rw [fqAt_map ha (by omega)]
   congr 1
   simp [TS.ptK]
  rw [e];exact yes_holds hI hb hi
 ·obtain ⟨T,b,way,hI,hB,hE,hl⟩:=feas_no f _ l h0 hf
  refine .inr (.inr ⟨l,rfl,⟨T,b,way,hI,hB,hE,hl⟩,fun ha=> ?_⟩)
  have hlen:l.length=rows.length:=by rw [hl,refK_len,hI.hr]
  obtain⟨h1,h2,h3⟩:=no_refutes hI hB hE (fun p=>fqAt (l.map fqOf) p) (fun p hp=>by
   rw [fqAt_map ha (by omega),←hl,List.getD_eq_getElem?_getD,List.getElem?_eq_getElem (by omega)];rfl)
  exact⟨by rw [List.length_map,hlen],all_fit_ok ha,h1,h2,h3⟩
 ·exact .inl rfl
end Go.Proofs.YtaiffmebphhdaaaGreat
