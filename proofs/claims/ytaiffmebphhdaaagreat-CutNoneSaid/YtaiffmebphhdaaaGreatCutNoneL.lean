/- The law CutNone, plain. -/
import Derived.Test.YtaiffmebphhdaaaGreatCuDD
import Derived.Test.YtaiffmebphhdaaaGreatSpI
namespace Go.Proofs.YtaiffmebphhdaaaGreat
set_option linter.unusedSimpArgs false
set_option linter.unusedVariables false
open Go.ChangeShapes Go.WideShapes Go.RowKit
theorem doR_in {rows:List Rw}{n:Nat}(hl:(listF rows n).1=0):doR rows n 2000=match TS.feas 2000 (TS.start n rows)with
  | .hungry=>⟨3,[],[],(0,0)⟩
  | .yes T=>if allFit (T.ptK T.n) (T.ptK T.n).length=true then⟨1,(T.ptK T.n).map fqOf,[],(0,0)⟩else⟨0,[],[],(10,0)⟩
  | .no l=>if allFit l l.length=true then⟨2,[],l.map fqOf,(0,0)⟩else⟨0,[],[],(10,0)⟩:=by
 unfold doR;rw [if_pos hl,if_neg (by omega)]
 rfl
theorem none_told {rows:List Rw}{ints:List Bool}(hl:(listF rows ints.length).1=0)(hn:ints.length≤3)(hm:rows.length≤8)(hs:SmallR rows):
  ∃st:Int,(st=1∨st=2)∧(∃pt tm,doR rows ints.length 2000=⟨st,pt,tm,(0,0)⟩)∧(∃pt T,doC rows (List.replicate ints.length false) 2000=⟨st,pt,T,(0,0)⟩)∧(st=2→(doC rows ints 2000).st≠1):=by
 have hst:=small_told hl (by omega) hm hs
 have e:=doR_in hl;obtain⟨hl0,hn0,hn12,h40,hok⟩:=list_rows hl;have h0:=start_inv (n:=ints.length) (by omega) (Nat.le_trans h40 (by decide)) hok
 have hh:=never_hungry h0 hn hm;have hmo:=feas_mono 2000 1046576 _ hh;have hd:∀J:List Bool,J.length=ints.length→doC rows J 2000=cutG (lpN ints.length) rows J 2000:=fun J hJ=>by
  unfold doC;rw [hJ,if_pos hl,if_neg (by omega)]
  rfl
 have hdr:=hd (List.replicate ints.length false) (by simp)
 rcases hf:TS.feas 2000 (TS.start ints.length rows)with T | l | _
 ·rw [hf]at e hmo
  simp only at e;have hlp:lpN ints.length rows= .yes (T.ptK T.n):=by unfold lpN lpT;rw [show(1048576:Nat)=2000+1046576 from rfl,hmo]
  by_cases hfit:allFit (T.ptK T.n) (T.ptK T.n).length=true
  ·rw [if_pos hfit]at e
   exact⟨1,.inl rfl,⟨_,_,e⟩,⟨_,_,hdr.trans (cut_root_yes (lp:=lpN ints.length) hlp hfit (fun k hk=>by rw [List.getD_eq_getElem?_getD];simp at hk;simp [hk]) (by decide))⟩,fun h=>absurd h (by decide)⟩
  ·rw [if_neg hfit]at e
   rw [e]at hst
   rcases hst with⟨_,h,_⟩ | ⟨_,h,_⟩<;>cases h
 ·rw [hf]at e hmo
  simp only at e;have hlp:lpN ints.length rows= .no l:=by unfold lpN lpT;rw [show(1048576:Nat)=2000+1046576 from rfl,hmo]
  by_cases hfit:allFit l l.length=true
  ·rw [if_pos hfit]at e
   obtain⟨c1,c2⟩:=cut_root_no (lp:=lpN ints.length) (ints:=List.replicate ints.length false) (fuel:=2000) hlp hfit (by decide)
   refine⟨2,.inr rfl,⟨_,_,e⟩,⟨(cutG (lpN ints.length) rows (List.replicate ints.length false) 2000).pt,(cutG (lpN ints.length) rows (List.replicate ints.length false) 2000).steps,?_⟩,fun _ h1=> ?_⟩
   ·rw [hdr,←c1,←c2]
   ·have hno:=(lp_ok (n:=ints.length) (by omega) 1048576).no rows l (by omega) hok hlp
    rcases doC_cases rows ints 2000 with⟨_,h2⟩ | ⟨_,_,h2⟩ | ⟨_,_,h2 | h2 | ⟨pt,h2,_,_,_,h3⟩ | ⟨_,h2,_⟩⟩
    ·rw [h2]at h1;cases h1
    ·rw [h2]at h1;cases h1
    ·rw [h2]at h1;cases h1
    ·rw [h2]at h1;cases h1
    ·refine hno.2.2 (fun j=>pt.getD j 0) fun p hp _=>h3 _ ?_
     rw [List.getD_eq_getElem?_getD,List.getElem?_eq_getElem hp];exact List.getElem_mem hp
    ·rw [h2]at h1;cases h1
  ·rw [if_neg hfit]at e
   rw [e]at hst
   rcases hst with⟨_,h,_⟩ | ⟨_,h,_⟩<;>cases h
 ·exact absurd hf hh
end Go.Proofs.YtaiffmebphhdaaaGreat
