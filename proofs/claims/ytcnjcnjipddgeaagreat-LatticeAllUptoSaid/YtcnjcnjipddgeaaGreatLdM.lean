/- The laws of lattice.Do, plain: what is told is so. -/
import Derived.Test.YtcnjcnjipddgeaaGreatLdRR
namespace Go.Proofs.YtcnjcnjipddgeaaGreat
set_option linter.unusedSimpArgs false
set_option linter.unusedVariables false
open Go.ChangeShapes Go.WideShapes Go.RowKit
theorem fqOf_qL {q:Rat}(h:Fits q):(fqOf q).q=q:=by
 unfold fqOf;rw [if_pos h];exact Rat.num_divInt_den _
theorem fqOf_okL {q:Rat}(h:Fits q):FracOK (fqOf q).N (fqOf q).D:=by
 unfold fqOf;rw [if_pos h];exact fits_ok h
theorem badL:∀ {l:List Fq} {i:Nat},(∀g∈l,FracOK g.N g.D)→firstBad l i=(0,0)
 | [],_,_=>rfl
 | g::l,i,h=>by unfold firstBad;rw [if_pos (h g (by simp))];exact badL fun y hy=>h y (by simp [hy])
theorem noR_not {w:List Rat}(h:(noR w).much=false):(∀q∈w,Fits q)∧noR w=⟨false,[],[],w.map fqOf,false⟩:=by
 unfold noR at h ⊢
 by_cases h1:w.all (fun q=>decide (Fits q))=true
 ·rw [if_pos h1]
  exact⟨fun q hq=>of_decide_eq_true (List.all_eq_true.1 h1 q hq),rfl⟩
 ·rw [if_neg h1]at h;cases h
theorem colK_az {rows:List Rw}{ts:List Rat}{k:Nat}:∀m,colK rows ts k m=sQ m fun r=>ts.getD r 0*(azR rows r k:Rat)
 | 0=>rfl
 | m+1=>by
  simp only [colK,sQ];rw [colK_az m];show _+((azR rows m k:Int):Rat)*_=_
  grind
theorem toK_az {rows:List Rw}{ts:List Rat}:∀m,toK rows ts m=sQ m fun r=>ts.getD r 0*toR rows r
 | 0=>rfl
 | m+1=>by
  simp only [toK,sQ];rw [toK_az m];show _+toR rows m*_=_
  grind
theorem no_taken {rows:List Rw}{N:Nat}{w:List Rat}(he:(eqF rows (N:Int)).1=0)(h:NoW N rows.length (azR rows) (toR rows) w)(hf:∀q∈w,Fits q):ltF rows (N:Int) (w.map fqOf)=(0,0)∧ltB rows (N:Int) (w.map fqOf)=true:=by
 have h1:ltF rows (N:Int) (w.map fqOf)=(0,0):=by
  unfold ltF;rw [if_neg (fun h=>h he),if_neg (by rw [List.length_map];exact fun e=>e h.len)]
  exact badL fun g hg=>by
   obtain⟨q,hq,rfl⟩:=List.mem_map.1 hg;exact fqOf_okL (hf q hq)
 refine⟨h1,?_⟩;unfold ltB;rw [h1,if_pos rfl,Int.toNat_natCast];have e:(w.map fqOf).map Fq.q=w:=by
  rw [List.map_map]
  conv=>rhs;rw [← List.map_id w]
  exact List.map_congr_left fun q hq=>fqOf_qL (hf q hq)
 rw [e];unfold lt1;rw [Bool.and_eq_true];refine⟨?_,?_⟩
 ·rw [Bool.not_eq_true',Bool.eq_false_iff]
  intro hany;obtain⟨q,hq,hp⟩:=List.any_eq_true.1 hany;unfold colL at hq;obtain⟨k,hk,rfl⟩:=List.mem_map.1 hq;have:=(h.whole k (List.mem_range.1 hk)).den;rw [← colK_az]at this;unfold frP at hp;rw [this]at hp;simp at hp
 ·unfold frP
  rw [toK_az,decide_eq_false fun hd=>h.not (IsZ.of_den hd)]
  rfl
end Go.Proofs.YtcnjcnjipddgeaaGreat
