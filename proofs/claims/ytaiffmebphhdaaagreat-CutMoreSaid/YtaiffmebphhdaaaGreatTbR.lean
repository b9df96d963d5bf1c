/- Package tableau, plain: the start, a step, the search for a point. -/
import Derived.Test.YtaiffmebphhdaaaGreatTbN
import Derived.Test.YtaiffmebphhdaaaGreatTbI
namespace Go.Proofs.YtaiffmebphhdaaaGreat
set_option linter.unusedSimpArgs false
set_option linter.unusedVariables false
open Go.ChangeShapes Go.WideShapes Go.RowKit
def TS.start (n:Nat)(rows:List Rw):TS where
 n:=n
 rows:=rows
 basic:=(List.range rows.length).map fun i=>n+i
 cells:=rows.map fun r=>(List.range (n+rows.length)).map fun k=>((r.of.getD k 0:Int):Rat)
 vals:=List.replicate (n+rows.length) pr0
def TS.lineOf (S:TS)(b:Int):Nat:=S.basic.findIdx fun(x:Nat)=>decide ((x:Int)=b)
def TS.enter (S:TS)(i:Nat)(way:Int):Option Nat:=(List.range (S.n+S.rows.length)).find? fun v=>decide (S.cell i v≠0)&&S.canB v (way*(S.cell i v).num.sign)
def TS.by (S:TS)(b:Nat)(i e:Nat)(way:Int):Pr:=((if 0<way then qZ S.n S.rows b else fF S.n S.rows b).sub (S.val b)).mul (1/S.cell i e)
inductive zcp where
 | yes (S:TS)
 | no (l:List Rat)
 | hungry
def TS.next (S:TS)(b:Nat)(way:Int)(e:Nat):TS:=(S.move e (S.by b (S.lineOf b) e way)).pivot (S.lineOf b) e
def TS.feas:Nat→TS→zcp
 | 0,S=>if S.broken.1<0 then .yes S else .hungry
 | f+1,S=>if S.broken.1<0 then .yes S else
   match S.enter (S.lineOf S.broken.1) S.broken.2 with
   | none=> .no (S.refK (S.lineOf S.broken.1) S.broken.2 (S.n+S.rows.length))
   | some e=>TS.feas f (S.next S.broken.1.toNat S.broken.2 e)
theorem TT {n:Nat}{rows:List Rw}(hn:n≤12)(h40:rows.length≤64)(hr:∀r∈rows,gN r n):(TS.start n rows).wf where
 n12:=hn
 r40:=h40
 rok:=hr
 bl:=by simp [TS.start]
 cl:=by simp [TS.start]
 cr:=by
  intro l hl;obtain⟨r,_,rfl⟩:=List.mem_map.1 hl;simp [TS.start]
 vl:=by simp [TS.start]
 nd:=by
  show((List.range rows.length).map fun i=>n+i).Nodup
  rw [List.nodup_iff_pairwise_ne,List.pairwise_map];exact List.nodup_range.imp fun h e=>h (by omega)
 bb:=by
  intro b hb;obtain⟨i,hi,rfl⟩:=List.mem_map.1 hb;have:=List.mem_range.1 hi;show n+i<n+rows.length;omega
theorem Sz {S:TS}(h:S.wf)(v:Nat)(d:Pr):(S.move v d).wf where
 n12:=h.n12
 r40:=h.r40
 rok:=h.rok
 bl:=h.bl
 cl:=h.cl
 cr:=h.cr
 vl:=by show(S.mvK v d S.basic.length).length=_;rw [yV];exact h.vl
 nd:=h.nd
 bb:=h.bb
theorem Qq {l:List Nat}(h:l.Nodup){i v:Nat}(hv:v∉l):(l.set i v).Nodup:=by
 rw [List.nodup_iff_pairwise_ne,List.pairwise_iff_getElem];intro a b ha hb hab;have ha':a<l.length:=by simpa using ha
 have hb':b<l.length:=by simpa using hb
 rw [List.getElem_set,List.getElem_set]
 split
 ·split
  ·omega
  ·exact fun e=>hv (e ▸ List.getElem_mem hb')
 ·split
  ·exact fun e=>hv (e ▸ List.getElem_mem ha')
  ·exact fun e=>by have:=(List.getElem_inj h).1 e;omega
theorem Na {S:TS}{i v:Nat}:(S.pivRow i v).length=(S.cells.getD i []).length:=by
 unfold TS.pivRow;rw [List.length_set,List.length_set,qY]
theorem Aw {S:TS}{i v K:Nat}(h:∀l∈S.cells,l.length=K):∀k,k≤S.cells.length→∀l∈S.pivC i v k,l.length=K
 | 0,_,l,hl=>h l hl
 | k+1,hk,l,hl=>by
  unfold TS.pivC at hl
  split at hl
  ·exact Aw h k (by omega) l hl
  ·rcases List.mem_or_eq_of_mem_set hl with hl | rfl
   ·exact Aw h k (by omega) l hl
   ·have e:S.cells.getD k []=S.cells[k]:=by rw [eG,iw (by omega)];rfl
    rw [e];simp only [yx,List.length_map,List.length_range];exact h _ (List.getElem_mem _)
theorem TU {S:TS}(h:S.wf){i v:Nat}(hi:i<S.rows.length)(hv:v<S.n+S.rows.length)(hvb:v∉S.basic):(S.pivot i v).wf where
 n12:=h.n12
 r40:=h.r40
 rok:=h.rok
 bl:=by show(S.basic.set i v).length=_;rw [List.length_set];exact h.bl
 cl:=by show((S.pivC i v S.cells.length).set i (S.pivRow i v)).length=_;rw [List.length_set,fZ];exact h.cl
 cr:=by
  intro l hl;have hl:l∈(S.pivC i v S.cells.length).set i (S.pivRow i v):=hl
  rcases List.mem_or_eq_of_mem_set hl with hl | rfl
  ·exact Aw h.cr _ (Nat.le_refl _) l hl
  ·have hic:i<S.cells.length:=by rw [h.cl];exact hi
   have e:S.cells.getD i []=S.cells[i]:=by rw [eG,iw hic];rfl
   rw [Na,e];exact h.cr _ (List.getElem_mem hic)
 vl:=h.vl
 nd:=Qq h.nd hvb
 bb:=by
  intro b hb
  rcases List.mem_or_eq_of_mem_set hb with hb | rfl
  ·exact h.bb b hb
  ·exact hv
end Go.Proofs.YtaiffmebphhdaaaGreat
