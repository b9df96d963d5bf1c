/- The laws of lattice.Do, plain: no whole point is left out. -/
import Derived.Test.YtcnjcnjipddgeaaGreatLdO
namespace Go.Proofs.YtcnjcnjipddgeaaGreat
set_option linter.unusedSimpArgs false
set_option linter.unusedVariables false
open Go.ChangeShapes Go.WideShapes Go.RowKit
theorem firstRow_ok {n:Int}:∀ {l:List Rw} {i:Nat},(∀r∈l,RowOK r n)→firstRow n l i=(0,0)
 | [],_,_=>rfl
 | r::l,i,h=>by
  unfold firstRow;rw [chk_ofL (h r (by simp))]
  simp only [if_true];exact firstRow_ok fun y hy=>h y (by simp [hy])
theorem firstK_ok:∀ {l:List Rw} {i:Nat},(∀r∈l,r.kind=3)→firstK l i=(0,0)
 | [],_,_=>rfl
 | r::l,i,h=>by
  unfold firstK;rw [if_pos (h r (by simp))]
  exact firstK_ok fun y hy=>h y (by simp [hy])
theorem eq_of_ok {l:List Rw}{n:Nat}(hn:n≤12)(h40:l.length≤40)(hok:∀r∈l,RowOK r n)(h3:∀r∈l,r.kind=3):eqF l (n:Int)=(0,0):=by
 have h1:listF l (n:Int)=(0,0):=by
  unfold listF;rw [if_neg (by omega),if_neg (by omega)]
  exact firstRow_ok hok
 unfold eqF;rw [h1,if_neg (by simp)]
 exact firstK_ok h3
def alongL (ways:List (List Int))(from_ to_:List Int):List Rw:=(List.range from_.length).map fun k=>⟨ways.map fun u=>u.getD k 0,3,to_.getD k 0-from_.getD k 0⟩
theorem along_get {ways:List (List Int)}{a b:List Int}{k:Nat}(hk:k<a.length):(alongL ways a b).getD k ⟨[],0,0⟩=⟨ways.map fun u=>u.getD k 0,3,b.getD k 0-a.getD k 0⟩:=by
 unfold alongL;rw [List.getD_eq_getElem?_getD,List.getElem?_map,List.getElem?_range hk];rfl
theorem along_az {ways:List (List Int)}{a b:List Int}{k j:Nat}(hk:k<a.length)(hj:j<ways.length):azR (alongL ways a b) k j=(ways.getD j []).getD k 0:=by
 unfold azR;rw [along_get hk];simp only;rw [List.getD_eq_getElem?_getD (l:=List.map _ _),List.getElem?_map,List.getD_eq_getElem?_getD (l:=ways),List.getElem?_eq_getElem hj];rfl
theorem sum_cut {f:Nat→Rat}{p:Nat}:∀K,(∀k,k<p→f k=0)→sQ (p+K) f=sQ K fun j=>f (p+j)
 | 0,h=>sQ_zeros p h
 | K+1,h=>by
  rw [show p+(K+1)=p+K+1 by omega]
  simp only [sQ];rw [sum_cut K h]
theorem Told.solves {rows:List Rw}{N:Nat}{R:DoRes}{S:LQ}(h:Told rows N R S):Solves N rows.length (fun r j=>(azR rows r j:Rat)) (toR rows) fun j=>((R.at_.getD j 0:Int):Rat):=fun r hr=>by
 rw [← pt_solves h.li r hr];exact sQ_congr N fun j hj=>by simp only;rw [h.aq j hj]
theorem Told.way {rows:List Rw}{N:Nat}{R:DoRes}{S:LQ}(h:Told rows N R S){i:Nat}(hi:i<R.ways.length){xs:List Int}(hx:∀j,j<N→xs.getD j 0=R.at_.getD j 0+(R.ways.getD i []).getD j 0):Solves N rows.length (fun r j=>(azR rows r j:Rat)) (toR rows) fun j=>((xs.getD j 0:Int):Rat):=fun r hr=>by
 have e1:=h.solves r hr;have hwl:=h.wl;have e2:=way_zero h.li (k:=S.piv.length+i) (by omega) (by omega) hr
 have e3:(sQ N fun j=>(azR rows r j:Rat)*((xs.getD j 0:Int):Rat))=(sQ N fun j=>(azR rows r j:Rat)*((R.at_.getD j 0:Int):Rat))+sQ N fun j=>(azR rows r j:Rat)*cellQ S.cols (S.piv.length+i) (rows.length+j):=by
  rw [← sQ_add];exact sQ_congr N fun j hj=>by rw [hx j hj,Rat.intCast_add,h.wq i hi j hj];grind
 simp only at e1 e2 ⊢;rw [e3,e1,e2];grind
theorem all_lattice {rows:List Rw}{N:Nat}{R:DoRes}{S:LQ}(h12:N≤12)(hok:∀r∈rows,RowOK r N)(hT:Told rows N R S){nums:List Int}(hl:nums.length=N)(hs:Solves N rows.length (fun r j=>(azR rows r j:Rat)) (toR rows) fun j=>((nums.getD j 0:Int):Rat))(hfit:∀k,k<N→fitI (nums.getD k 0-R.at_.getD k 0)):
  (ltE (alongL R.ways R.at_ nums) (R.ways.length:Nat)).1=10∨
  ((ltE (alongL R.ways R.at_ nums) (R.ways.length:Nat)).1=0∧(ltR (alongL R.ways R.at_ nums) (R.ways.length:Nat)).yes=true∧(ltR (alongL R.ways R.at_ nums) (R.ways.length:Nat)).at_.length=R.ways.length∧(ltR (alongL R.ways R.at_ nums) (R.ways.length:Nat)).ways= []∧
   ∀j,j<N→R.at_.getD j 0+sZ R.ways.length (fun k=>(ltR (alongL R.ways R.at_ nums) (R.ways.length:Nat)).at_.getD k 0*(R.ways.getD k []).getD j 0)=nums.getD j 0):=by
 have hI:=hT.li;have hpn:=hI.pn;have hwl:=hT.wl;have hal:=hT.al;obtain⟨l,hle⟩:∃l,l=alongL R.ways R.at_ nums:=⟨_,rfl⟩;rw [← hle];have hll:l.length=N:=by rw [hle];simp [alongL,hal]
 have hrow:∀r∈l,RowOK r (R.ways.length:Nat)∧r.kind=3:=fun r hr=>by
  rw [hle]at hr;unfold alongL at hr;obtain⟨k,hk,rfl⟩:=List.mem_map.1 hr;have hk:=List.mem_range.1 hk;refine⟨⟨by omega,by omega,.inr (.inr rfl),by simp,fun x hx=> ?_,hfit k (by omega)⟩,rfl⟩
  obtain⟨u,hu,rfl⟩:=List.mem_map.1 hx;rw [List.getD_eq_getElem?_getD]
  rcases hg:u[k]? with _ | y
  ·unfold fitI;simp
  ·exact (hT.ww u hu).2 _ (List.mem_of_getElem? hg)
 have heq:eqF l (R.ways.length:Nat)=(0,0):=eq_of_ok (by omega) (by omega) (fun r hr=>(hrow r hr).1) fun r hr=>(hrow r hr).2
 have haz:∀k j,k<N→j<R.ways.length→((azR l k j:Int):Rat)=cellQ S.cols (S.piv.length+j) (rows.length+k):=fun k j hk hj=>by
  rw [hle,along_az (by omega) hj];exact hT.wq j hj k hk
 have hto:∀k,k<N→toR l k=((nums.getD k 0:Int):Rat)-((R.at_.getD k 0:Int):Rat):=fun k hk=>by
  unfold toR;rw [hle,along_get (by omega)]
  simp only;rw [Rat.intCast_sub]
 obtain⟨z,hz,hz0,hze⟩:=all_made (start_given (rowsFit h12 hok)) hI (x:=fun j=>((nums.getD j 0:Int):Rat)) (fun j=>IsZ.int _) hs
 have hsol:Solves R.ways.length l.length (fun r j=>(azR l r j:Rat)) (toR l) fun j=>z (S.piv.length+j):=fun k hk=>by
  rw [hll]at hk;have e1:=hze k hk;have e2:(sQ N fun q=>z q*cellQ S.cols q (rows.length+k))=sQ R.ways.length fun j=>z (S.piv.length+j)*cellQ S.cols (S.piv.length+j) (rows.length+k):=by
   have:=sum_cut (f:=fun q=>z q*cellQ S.cols q (rows.length+k)) (p:=S.piv.length) R.ways.length fun q hq=>by rw [hz0 q hq];grind
   rwa [show S.piv.length+R.ways.length=N by omega]at this
  have e3:(sQ R.ways.length fun j=>(azR l k j:Rat)*z (S.piv.length+j))=sQ R.ways.length fun j=>z (S.piv.length+j)*cellQ S.cols (S.piv.length+j) (rows.length+k):=sQ_congr _ fun j hj=>by
   rw [haz k j hk hj];grind
  simp only at e1 ⊢;rw [e3,←e2,hto k hk,e1,hT.aq k hk];grind
 rcases ltR_cases l (R.ways.length:Nat)with⟨h1,_,_⟩ | ⟨_,N',e,g2,g3,g4,g5,g6,g7,⟨w,hw,hN⟩ | ⟨S',hS',hI'⟩⟩
 ·rw [heq]at h1;exact absurd rfl h1
 ·obtain rfl:R.ways.length=N':=by omega
  exact(no_solves hN (fun j=>hz _) hsol).elim
 ·obtain rfl:R.ways.length=N':=by omega
  rw [g7]
  cases hm:(ltR l (R.ways.length:Nat)).much
  case true=>exact .inl (by rfl)
  case false=>
   have hy:(ltR l (R.ways.length:Nat)).yes=true:=by
    rw [hS',yesR_much]at hm;rw [hS']
    simpa using hm
   obtain⟨N2,e2,_,_,_,_,_,S2,hT2⟩:=told_of hy;obtain rfl:R.ways.length=N2:=by omega
   have hp:S2.piv.length=R.ways.length:=all_pivots hT2.li fun y hy0 j hj=>by
    have:=way_free hI (y:=fun q=>if S.piv.length≤q then y (q-S.piv.length)else 0) (fun k hk=>by
     have e1:=sum_cut (f:=fun q=>(if S.piv.length≤q then y (q-S.piv.length)else 0)*cellQ S.cols q (rows.length+k)) (p:=S.piv.length) R.ways.length fun q hq=>by rw [if_neg (by omega)];grind
     rw [show S.piv.length+R.ways.length=N by omega]at e1
     rw [e1];refine Eq.trans ?_ (hy0 k (by rw [hll];exact hk))
     refine sQ_congr _ fun j hj=> ?_
     rw [if_pos (by omega),show S.piv.length+j-S.piv.length=j by omega,haz k j hk hj];grind) (S.piv.length+j) (by omega)
    rwa [if_pos (by omega),show S.piv.length+j-S.piv.length=j by omega]at this
   refine .inr ⟨rfl,hy,hT2.al,?_,fun k hk=> ?_⟩
   ·have:=hT2.wl
    rw [hp,Nat.sub_self]at this;exact List.length_eq_zero_iff.1 this
   ·have e1:=pt_solves hT2.li k (by rw [hll];exact hk)
    rw [hto k hk]at e1;rw [← Rat.intCast_inj,Rat.intCast_add,sZ_cast];have e3:(sQ R.ways.length fun j=>(((ltR l (R.ways.length:Nat)).at_.getD j 0*(R.ways.getD j []).getD k 0:Int):Rat))=sQ R.ways.length fun j=>(azR l k j:Rat)*ptQ S2 l.length j:=sQ_congr _ fun j hj=>by
     rw [Rat.intCast_mul,hT2.aq j hj,hT.wq j hj k hk,haz k j hk hj];grind
    rw [e3];rw [e1];grind
end Go.Proofs.YtcnjcnjipddgeaaGreat
