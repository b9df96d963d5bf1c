/- Of small rows it is always told; with fewer rows, and with a row's contrary: plain. -/
import Derived.Test.YtaiffmebphhdaaaGreatSpG
import Derived.Test.YtaiffmebphhdaaaGreatTbY
import Derived.Test.YtaiffmebphhdaaaGreatRowAA
namespace Go.Proofs.YtaiffmebphhdaaaGreat
set_option linter.unusedSimpArgs false
set_option linter.unusedVariables false
open Go.ChangeShapes Go.WideShapes Go.RowKit
theorem all_fit_of {l:List Rat}(h:∀q∈l,Fits q):allFit l l.length=true:=by
 unfold allFit;rw [List.take_length,List.all_eq_true];exact fun q hq=>decide_eq_true (h q hq)
theorem fits_neg {q:Rat}(h:Fits q):Fits (-q):=by
 unfold Fits at *;rw [Rat.neg_num,Rat.neg_den,Int.natAbs_neg];exact h
theorem refK_small {n:Nat}{rows:List Rw}{T:TS}{i:Nat}{way:Int}(h:Inv n rows T)(hs:SmallR rows)(hn:n≤3)(hi:i<rows.length)(hw:way=1∨way= -1):∀k,k≤n+rows.length→∀q∈T.refK i way k,Fits q
 | 0,_,q,hq=>by
  unfold TS.refK at hq
  rcases List.mem_or_eq_of_mem_set hq with hq | rfl
  ·rw [(List.mem_replicate.1 hq).2];unfold Fits;decide
  ·rcases hw with rfl | rfl<;>(unfold Fits;decide)
 | k+1,hk,q,hq=>by
  unfold TS.refK at hq
  split at hq
  ·exact refK_small h hs hn hi hw k (by omega) q hq
  ·rcases List.mem_or_eq_of_mem_set hq with hq | rfl
   ·exact refK_small h hs hn hi hw k (by omega) q hq
   ·have hc:=h.small_cell hs hn hi (show k<n+rows.length by omega)
    rcases hw with rfl | rfl
    ·have e: -(T.cell i k*((-1:Int):Rat))=T.cell i k:=by rw [show((-1:Int):Rat)= -1 from rfl];grind
     rw [e];exact hc
    ·have e: -(T.cell i k*((-(-1):Int):Rat))= -T.cell i k:=by rw [show((-(-1):Int):Rat)=1 from rfl];grind
     rw [e];exact fits_neg hc
theorem small_told {rows:List Rw}{n:Int}(hl:(listF rows n).1=0)(hn:n≤3)(hm:rows.length≤8)(hs:SmallR rows):
  (∃pt,doR rows n 2000=⟨1,pt,[],(0,0)⟩∧YesOf rows n.toNat pt)∨(∃tm,doR rows n 2000=⟨2,[],tm,(0,0)⟩∧NoOf rows n.toNat tm):=by
 obtain⟨hl0,hn0,hn12,h40,hok⟩:=list_rows hl;have hok':∀r∈rows,RowOK r (n.toNat:Nat):=by
  rw [show((n.toNat:Nat):Int)=n by omega]
  exact hok
 have hn3:n.toNat≤3:=by omega
 have h0:=start_inv (n:=n.toNat) (by omega) (Nat.le_trans h40 (by decide)) hok'
 have e:doR rows n 2000=match TS.feas 2000 (TS.start n.toNat rows)with
  | .hungry=>⟨3,[],[],(0,0)⟩
  | .yes T=>if allFit (T.ptK T.n) (T.ptK T.n).length=true then⟨1,(T.ptK T.n).map fqOf,[],(0,0)⟩else⟨0,[],[],(10,0)⟩
  | .no l=>if allFit l l.length=true then⟨2,[],l.map fqOf,(0,0)⟩else⟨0,[],[],(10,0)⟩:=by
  unfold doR;rw [if_pos hl,if_neg (by omega),show(2000:Int).toNat=2000 from rfl]
  cases TS.feas 2000 (TS.start n.toNat rows)<;>rfl
 rcases feas_told (f:=2000) (by omega) (Nat.le_trans h40 (by decide)) hok' with h | ⟨T,h,hI,h2⟩ | ⟨l,h,⟨T,b,way,hI,hB,hE,hll⟩,h2⟩
 ·exact absurd h (never_hungry h0 hn3 hm)
 ·rw [h]at e
  simp only at e;have ha:allFit (T.ptK T.n) (T.ptK T.n).length=true:=by
   refine all_fit_of fun q hq=> ?_
   unfold TS.ptK at hq;obtain⟨j,hj,rfl⟩:=List.mem_map.1 hq;exact hI.small_pt hs hn3 (by have:=List.mem_range.1 hj;rw [hI.hn]at this;exact this)
  rw [if_pos ha]at e;exact .inl ⟨_,e,h2 ha⟩
 ·rw [h]at e
  simp only at e;have ha:allFit l l.length=true:=by
   refine all_fit_of ?_;rw [hll];have hi:=(line_spec hB.mem).1;rw [hI.wf.bl,hI.hr]at hi;exact refK_small hI hs hn3 hi hB.way _ (by rw [hI.hn,hI.hr];exact Nat.le_refl _)
  rw [if_pos ha]at e;exact .inr ⟨_,e,h2 ha⟩
def AtPt (r:Rw)(N:Nat)(x:Nat→Rat):Prop:=
 (r.kind=1→(sQ N fun j=>(r.of.getD j 0:Rat)*x j)≤(r.to:Rat))∧(r.kind=2→(sQ N fun j=>(r.of.getD j 0:Rat)*x j)<(r.to:Rat))∧(r.kind=3→(sQ N fun j=>(r.of.getD j 0:Rat)*x j)=(r.to:Rat))
theorem rowD {rows:List Rw}{i:Nat}(hi:i<rows.length):rows.getD i nilRw=rows[i]:=by rw [List.getD_eq_getElem?_getD,List.getElem?_eq_getElem hi];rfl
theorem sumSwap {f:Nat→Nat→Rat}{m:Nat}:∀n,sQ n (fun i=>sQ m (fun j=>f i j))=sQ m (fun j=>sQ n (fun i=>f i j))
 | 0=>by simp only [sQ];exact(sQ_zeros m fun _ _=>rfl).symm
 | n+1=>by simp only [sQ];rw [sumSwap n,←sQ_add]
theorem sumLe {f g:Nat→Rat}:∀n,(∀j,j<n→f j≤g j)→sQ n f≤sQ n g
 | 0,_=>Rat.le_refl
 | n+1,h=>by
  have ih:=sumLe n fun j hj=>h j (by omega)
  have:=h n (by omega)
  simp only [sQ]
  grind
theorem sumLt {f g:Nat→Rat}{p:Nat}:∀n,p<n→(∀j,j<n→f j≤g j)→f p<g p→sQ n f<sQ n g
 | 0,h,_,_=>absurd h (by omega)
 | n+1,hp,h,hs=>by
  simp only [sQ]
  by_cases e:p=n
  ·subst e
   have:=sumLe p fun j hj=>h j (by omega)
   grind
  ·have:=sumLt n (by omega) (fun j hj=>h j (by omega)) hs
   have:=h n (by omega)
   grind
end Go.Proofs.YtaiffmebphhdaaaGreat
